/- Where nothing has changed the fold is the same: plain. No program. -/
import Derived.Test.YtjjdgbhplechbaaGreatDoorRpM
import Derived.Test.YtjjdgbhplechbaaGreatDoorDmB
set_option linter.unusedVariables false
set_option linter.unusedSimpArgs false
namespace Go.Proofs.YtjjdgbhplechbaaGreatDoor.Cv
open Go.RowKit Go.Proofs.YtjjdgbhplechbaaGreatDoor.Kit Go.Proofs.YtjjdgbhplechbaaGreatDoor.Reg Go.Proofs.YtjjdgbhplechbaaGreatDoor.Rect Go.Proofs.YtjjdgbhplechbaaGreatDoor.Pix
theorem fld_nat {x y : Nat} (hx : x < 48) (hy : y < 48) : fld (x : Int) (y : Int) := by unfold fld; omega
theorem inn_has {l : List R} {x y : Nat} (hx : x < 48) (hy : y < 48) (h : hasL l (x : Int) (y : Int) = true) : inn l (x : Int) (y : Int) = true := by
  obtain ⟨r, hr, hi⟩ := hasL_iff.1 h
  refine List.any_eq_true.2 ⟨r, hr, ?_⟩
  rw [has_iff, inR_bound]
  exact ⟨hi, by omega, by omega, by omega, by omega⟩
theorem chg_has {old l : List Vw} {ds : List Dt} {k x y : Nat} {r : R} (hk : k < max old.length l.length) (hr : r ∈ stepV old l ds k) (hi : inR r (x : Int) (y : Int)) (hx : x < 48) (hy : y < 48) : inn (chgV old l ds) (x : Int) (y : Int) = true :=
  inn_has hx hy (has_flat_dam (hasL_iff.2 ⟨r, List.mem_flatMap.2 ⟨k, List.mem_range.2 hk, hr⟩, hi⟩) (fld_nat hx hy))
theorem lists_at {W H : Nat} {L M : List Int} (hW : 0 < W) (hL : L.length = W * H) (hM : M.length = W * H) (h : ∀ x y : Nat, x < W → y < H → atP W H L (x : Int) (y : Int) = atP W H M (x : Int) (y : Int)) : L = M := by
  apply List.ext_getElem (by rw [hL, hM])
  intro i h1 h2
  have hx : i % W < W := Nat.mod_lt _ hW
  have hy : i / W < H := Nat.div_lt_of_lt_mul (by rw [← hL]; exact h1)
  have e : i / W * W + i % W = i := by rw [Nat.mul_comm]; exact Nat.div_add_mod i W
  have a := at_nat hx hy hL
  have b := at_nat hx hy hM
  rw [e] at a b
  rw [List.getElem?_eq_getElem h1] at a
  rw [List.getElem?_eq_getElem h2] at b
  injection a with a
  injection b with b
  rw [a, b]
  exact h _ _ hx hy
theorem fold_al {α β : Type} (f : β → α → β) : ∀ (a b : List α), (∀ k : Nat, (∃ v : α, a[k]? = some v ∧ b[k]? = some v) ∨ ((∀ v : α, a[k]? = some v → ∀ o, f o v = o) ∧ (∀ v : α, b[k]? = some v → ∀ o, f o v = o))) → ∀ o, a.foldl f o = b.foldl f o
  | [], [], _, o => rfl
  | [], v :: b, h, o => by
    have h0 := h 0
    rcases h0 with ⟨u, h1, _⟩ | ⟨_, h2⟩
    · simp at h1
    · rw [List.foldl_cons, h2 v rfl]
      exact fold_al f [] b (fun k => by
        rcases h (k + 1) with ⟨u, h1, _⟩ | ⟨_, h2⟩
        · simp at h1
        · exact .inr ⟨by simp, fun v hv => h2 v (by simpa using hv)⟩) o
  | u :: a, [], h, o => by
    have h0 := h 0
    rcases h0 with ⟨u, _, h1⟩ | ⟨h2, _⟩
    · simp at h1
    · rw [List.foldl_cons, h2 u rfl]
      exact fold_al f a [] (fun k => by
        rcases h (k + 1) with ⟨u, _, h1⟩ | ⟨h2, _⟩
        · simp at h1
        · exact .inr ⟨fun v hv => h2 v (by simpa using hv), by simp⟩) o
  | u :: a, v :: b, h, o => by
    have hr := fold_al f a b (fun k => by simpa using h (k + 1))
    rcases h 0 with ⟨t, h1, h2⟩ | ⟨h1, h2⟩
    · have e1 : u = t := by simpa using h1
      have e2 : v = t := by simpa using h2
      rw [List.foldl_cons, List.foldl_cons, e1, e2, hr]
    · rw [List.foldl_cons, List.foldl_cons, h1 u rfl, h2 v rfl, hr]
/-- A view that is its image's size, and has not the point, does nothing to it. -/
def Sized (m : List Im) (v : Vw) : Prop := ∀ g, findI m v.b = some g → g.w = v.w ∧ g.h = v.h
theorem foldV_off {m : List Im} {v : Vw} (hs : Sized m v) {x y : Int} (h : ¬ inR (rvV v) x y) (o : Int) : foldV m x y o v = o := by
  unfold foldV
  split
  · rfl
  · rename_i g hg
    obtain ⟨e1, e2⟩ := hs g hg
    unfold onePt
    rw [if_neg]
    intro q
    have := has_iff.1 q.2.1
    rw [e1, e2] at this
    exact h this
theorem fold_whole {m : List Im} {a b : List Vw} (ha : ∀ v ∈ a, Sized m v) (hb : ∀ v ∈ b, Sized m v) {x y : Nat} (hx : x < 48) (hy : y < 48) (hout : inn (chgV a b []) (x : Int) (y : Int) = false) (o : Int) :
    a.foldl (foldV m (x : Int) (y : Int)) o = b.foldl (foldV m (x : Int) (y : Int)) o := by
  refine fold_al _ a b (fun k => ?_) o
  by_cases hk : k < max a.length b.length
  case neg => exact .inr ⟨fun v hv => (by rw [List.getElem?_eq_none (by omega)] at hv; cases hv), fun v hv => (by rw [List.getElem?_eq_none (by omega)] at hv; cases hv)⟩
  by_cases hc : (decide (k < a.length) && (decide (k < b.length) && eqV (atV a k) (atV b k))) = true
  · simp only [Bool.and_eq_true, decide_eq_true_eq] at hc
    obtain ⟨h1, h2, h3⟩ := hc
    have h4 := eqV_iff.1 h3
    rw [at_in h1, at_in h2] at h4
    exact .inl ⟨a[k], List.getElem?_eq_getElem h1, by rw [List.getElem?_eq_getElem h2, h4]⟩
  · have hst : stepV a b [] k = (if decide (k < a.length) = true then [rvV (atV a k)] else []) ++ (if decide (k < b.length) = true then [rvV (atV b k)] else []) := by unfold stepV; rw [if_neg hc]
    refine .inr ⟨fun v hv o => ?_, fun v hv o => ?_⟩
    · obtain ⟨h1, rfl⟩ := List.getElem?_eq_some_iff.1 hv
      refine foldV_off (ha _ (List.getElem_mem h1)) (fun hi => ?_) o
      have := chg_has (ds := []) hk (r := rvV a[k]) (by rw [hst, decide_eq_true h1, if_pos rfl, at_in h1]; simp) hi hx hy
      rw [hout] at this
      cases this
    · obtain ⟨h1, rfl⟩ := List.getElem?_eq_some_iff.1 hv
      refine foldV_off (hb _ (List.getElem_mem h1)) (fun hi => ?_) o
      have := chg_has (ds := []) hk (r := rvV b[k]) (by rw [hst, decide_eq_true h1, if_pos rfl, at_in h1]; simp) hi hx hy
      rw [hout] at this
      cases this
theorem all_len {W H : Nat} {back : Int} {l : List Vw} {m : List Im} {L : List Int} (hL : L.length = W * H) : (allL W H back l m L).length = W * H := by
  unfold allL
  have : ∀ (l : List Vw) (L : List Int), L.length = W * H → (l.foldl (paintV W H [⟨0, 0, (W : Int), (H : Int)⟩] m) L).length = W * H := by
    intro l
    induction l with
    | nil => intro L h; exact h
    | cons v l ih => intro L h; rw [List.foldl_cons]; exact ih _ (by rw [paintV_len]; exact h)
  exact this l _ (by rw [drawn_len]; exact hL)
theorem part_len {W H : Nat} {back : Int} {l : List Vw} {m : List Im} {clip : List R} {L : List Int} (hL : L.length = W * H) : (partL W H back l m clip L).length = W * H := by
  unfold partL
  have : ∀ (l : List Vw) (L : List Int), L.length = W * H → (l.foldl (paintV W H clip m) L).length = W * H := by
    intro l
    induction l with
    | nil => intro L h; exact h
    | cons v l ih => intro L h; rw [List.foldl_cons]; exact ih _ (by rw [paintV_len]; exact h)
  exact this l _ (by rw [drawn_len]; exact hL)
/-- RepaintWhole: the part that is Changed, painted anew, is the whole. -/
theorem whole_eq {W H : Nat} {back : Int} {a b : List Vw} {m : List Im} {L0 : List Int} (hW0 : 0 < W) (hW : W ≤ 48) (hH : H ≤ 48) (hL : L0.length = W * H) (ha : ∀ v ∈ a, Sized m v) (hb : ∀ v ∈ b, Sized m v) :
    partL W H back b m (chgV a b []) (allL W H back a m L0) = allL W H back b m (allL W H back a m L0) := by
  have h1 := all_len (back := back) (l := a) (m := m) hL
  refine lists_at hW0 (part_len h1) (all_len h1) fun x y hx hy => ?_
  rw [at_allL hW hH h1 hx hy]
  cases hi : inn (chgV a b []) (x : Int) (y : Int) with
  | true => rw [at_part_in h1 hx hy hi]
  | false =>
    rw [at_part_out h1 hx hy hi, at_allL hW hH hL hx hy]
    exact fold_whole ha hb (by omega) (by omega) hi back
/-! one image, one damage -/
def dirV (X Y : Int) : Vw := ⟨4, 9, X, Y, 6, 5⟩
def dirM (P : List Int) (A : Option Addr) (c : Nat) : List Im := [⟨9, 6, 5, P, A, c⟩]
theorem dirM_pl (P : List Int) (A : Option Addr) (c : Nat) : (dirM P A c).map pl = (dirM P none 0).map pl := rfl
theorem foldV_dir {P : List Int} {A : Option Addr} {c : Nat} {X Y x y o : Int} : foldV (dirM P A c) x y o (dirV X Y) = onePt X Y 6 5 P x y o := rfl
theorem ix_65 {i j : Nat} (hi : i < 6) : (j * 6 + i) % 6 = i ∧ (j * 6 + i) / 6 = j := by omega
theorem dirty_pt {P Q : List Int} {r : R} {X Y : Int} {x y : Nat} {o : Int} (hX : -100 ≤ X ∧ X ≤ 100) (hY : -100 ≤ Y ∧ Y ≤ 100) (hP : P.length = 30) (hQ : Q.length = 30) (hx : x < 48) (hy : y < 48)
    (hPQ : ∀ i, i < 30 → inn [r] ((i % 6 : Nat) : Int) ((i / 6 : Nat) : Int) = false → Q[i]? = P[i]?)
    (hout : inn (chgV [dirV X Y] [dirV X Y] [⟨4, [r], none, 0⟩]) (x : Int) (y : Int) = false) : onePt X Y 6 5 P (x : Int) (y : Int) o = onePt X Y 6 5 Q (x : Int) (y : Int) o := by
  unfold onePt
  by_cases hh : rHas ⟨X, Y, 6, 5⟩ (x : Int) (y : Int) = true
  case neg => rw [if_neg (fun q => hh q.2.1), if_neg (fun q => hh q.2.1)]
  have hi := has_iff.1 hh
  unfold inR at hi
  simp only at hi
  obtain ⟨i, ei⟩ : ∃ i : Nat, (x : Int) - X = (i : Int) := ⟨((x : Int) - X).toNat, by omega⟩
  obtain ⟨j, ej⟩ : ∃ j : Nat, (y : Int) - Y = (j : Int) := ⟨((y : Int) - Y).toNat, by omega⟩
  have hi6 : i < 6 := by omega
  have hj5 : j < 5 := by omega
  have eix : (((y : Int) - Y) * 6 + (x : Int) - X).toNat = j * 6 + i := by omega
  have hlt : j * 6 + i < 30 := by omega
  have hm := ix_65 (j := j) hi6
  have hn : inn [r] ((i : Nat) : Int) ((j : Nat) : Int) = false := by
    cases hq : inn [r] ((i : Nat) : Int) ((j : Nat) : Int) with
    | false => rfl
    | true =>
      exfalso
      have h1 : rHas (rBound r) (i : Int) (j : Int) = true := by simpa [inn] using hq
      have h2 := has_iff.1 h1
      have hsp : inR (spotV (dirV X Y) r) (x : Int) (y : Int) := by
        unfold spotV
        rw [inR_cut, inR_shift]
        refine ⟨?_, has_iff.1 hh⟩
        show inR (rBound r) ((x : Int) - X) ((y : Int) - Y)
        rw [ei, ej]
        exact h2
      have hck : rChk (rvV (dirV X Y)) = true := by
        rw [chk_iff]
        unfold chkR rvV dirV
        simp only
        omega
      have hmem : spotV (dirV X Y) r ∈ stepV [dirV X Y] [dirV X Y] [⟨4, [r], none, 0⟩] 0 := by
        unfold stepV
        rw [if_pos (by rw [show eqV (atV [dirV X Y] 0) (atV [dirV X Y] 0) = true from eqV_iff.2 rfl]; rfl)]
        show spotV (dirV X Y) r ∈ dList (dirV X Y) [⟨4, [r], none, 0⟩]
        unfold dList
        rw [if_pos hck]
        show spotV (dirV X Y) r ∈ (dOne (dirV X Y) ⟨4, [r], none, 0⟩ ++ [])
        rw [List.append_nil]
        unfold dOne
        rw [if_pos (show (4 : Int) = (dirV X Y).s from rfl)]
        simp
      have := chg_has (k := 0) (by simp) hmem hsp hx hy
      rw [hout] at this
      cases this
  have he := hPQ (j * 6 + i) hlt (by rw [hm.1, hm.2]; exact hn)
  have hg : Q.getD (j * 6 + i) 0 = P.getD (j * 6 + i) 0 := by rw [List.getD_eq_getElem?_getD, List.getD_eq_getElem?_getD, he]
  rw [eix, hP, hQ, hg]
theorem dirty_eq {W H : Nat} {back : Int} {P Q : List Int} {A B : Option Addr} {ca cb : Nat} {r : R} {X Y : Int} {L0 : List Int} (hW0 : 0 < W) (hW : W ≤ 48) (hH : H ≤ 48) (hL : L0.length = W * H) (hX : -100 ≤ X ∧ X ≤ 100) (hY : -100 ≤ Y ∧ Y ≤ 100) (hP : P.length = 30) (hQ : Q.length = 30)
    (hPQ : ∀ i, i < 30 → inn [r] ((i % 6 : Nat) : Int) ((i / 6 : Nat) : Int) = false → Q[i]? = P[i]?) :
    partL W H back [dirV X Y] (dirM Q B cb) (chgV [dirV X Y] [dirV X Y] [⟨4, [r], none, 0⟩]) (allL W H back [dirV X Y] (dirM P A ca) L0) = allL W H back [dirV X Y] (dirM Q B cb) (allL W H back [dirV X Y] (dirM P A ca) L0) := by
  have h1 := all_len (back := back) (l := [dirV X Y]) (m := dirM P A ca) hL
  refine lists_at hW0 (part_len h1) (all_len h1) fun x y hx hy => ?_
  rw [at_allL hW hH h1 hx hy]
  cases hi : inn (chgV [dirV X Y] [dirV X Y] [⟨4, [r], none, 0⟩]) (x : Int) (y : Int) with
  | true => rw [at_part_in h1 hx hy hi]
  | false =>
    rw [at_part_out h1 hx hy hi, at_allL hW hH hL hx hy, List.foldl_cons, List.foldl_nil, List.foldl_cons, List.foldl_nil, foldV_dir, foldV_dir]
    exact dirty_pt hX hY hP hQ (by omega) (by omega) hPQ hi
end Go.Proofs.YtjjdgbhplechbaaGreatDoor.Cv
