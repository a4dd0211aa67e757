/- Plain laws on rows of segments (spans, bands): what is sorted, apart and merged is one for one set of points. No program. -/
import Derived.Test.YtjjdgbhplechbaaGreatDoorRectMath
import Derived.Lib.SlicesCompact
set_option linter.unusedVariables false
set_option linter.unusedSimpArgs false
namespace Go.Proofs.YtjjdgbhplechbaaGreatDoor.Reg
open Go.Proofs.YtjjdgbhplechbaaGreatDoor.Rect

structure Seg (α : Type) where
  f : Int
  t : Int
  v : α
deriving DecidableEq
section
variable {α : Type}
/-- Sorted: each begins where the one ahead ends, or behind. -/
def Srt (lo : Int) : List (Seg α) → Prop
  | [] => True
  | s :: r => lo ≤ s.f ∧ s.f < s.t ∧ Srt s.t r
/-- Sorted, and what touches differs. -/
def Ok (lo : Int) : List (Seg α) → Prop
  | [] => True
  | s :: r => lo ≤ s.f ∧ s.f < s.t ∧ Ok s.t r ∧ ∀ b, r.head? = some b → b.f = s.t → b.v ≠ s.v
def hi (lo : Int) : List (Seg α) → Int
  | [] => lo
  | s :: r => hi s.t r
def look : List (Seg α) → Int → Option α
  | [], _ => none
  | s :: r, y => if s.f ≤ y ∧ y < s.t then some s.v else look r y

theorem Ok.srt {lo : Int} : ∀ {l : List (Seg α)}, Ok lo l → Srt lo l
  | [], _ => trivial
  | _ :: _, h => ⟨h.1, h.2.1, h.2.2.1.srt⟩
theorem Srt.mono {lo lo' : Int} (hl : lo' ≤ lo) : ∀ {l : List (Seg α)}, Srt lo l → Srt lo' l
  | [], _ => trivial
  | _ :: _, h => ⟨by have := h.1; omega, h.2⟩
theorem Ok.mono {lo lo' : Int} (hl : lo' ≤ lo) : ∀ {l : List (Seg α)}, Ok lo l → Ok lo' l
  | [], _ => trivial
  | _ :: _, h => ⟨by have := h.1; omega, h.2⟩
theorem Srt.hi_le {lo : Int} : ∀ {l : List (Seg α)}, Srt lo l → lo ≤ hi lo l
  | [], _ => by simp [hi]
  | s :: r, h => by have h1 := h.1; have h2 := h.2.1; have := h.2.2.hi_le; simp only [hi]; omega
theorem hi_snoc (lo : Int) (s : Seg α) : ∀ l : List (Seg α), hi lo (l ++ [s]) = s.t
  | [] => rfl
  | _ :: r => hi_snoc _ s r
theorem srt_snoc (s : Seg α) : ∀ (l : List (Seg α)) (lo : Int), Srt lo (l ++ [s]) ↔ Srt lo l ∧ hi lo l ≤ s.f ∧ s.f < s.t
  | [], lo => by simp [Srt, hi]
  | a :: r, lo => by simp only [List.cons_append, Srt, hi, srt_snoc s r]; constructor <;> (intro h; simp only [h, true_and, and_true] ; try simp [h])
theorem ok_snoc (s : Seg α) : ∀ (l : List (Seg α)) (lo : Int), Ok lo (l ++ [s]) ↔ Ok lo l ∧ hi lo l ≤ s.f ∧ s.f < s.t ∧ ∀ b, l.getLast? = some b → s.f = b.t → s.v ≠ b.v
  | [], lo => by simp [Ok, hi]
  | [a], lo => by
    simp only [List.cons_append, List.nil_append, Ok, hi, List.head?_cons, List.getLast?_singleton, Option.some.injEq, forall_eq', List.head?_nil, true_and]
    simp only [reduceCtorEq, false_implies, implies_true, and_true]
    constructor
    · rintro ⟨h1, h2, ⟨h3, h4⟩, h5⟩; exact ⟨⟨h1, h2⟩, h3, h4, h5⟩
    · rintro ⟨⟨h1, h2⟩, h3, h4, h5⟩; exact ⟨h1, h2, ⟨h3, h4⟩, h5⟩
  | a :: c :: r, lo => by
    have ih := ok_snoc s (c :: r) a.t
    simp only [List.cons_append] at ih
    simp only [List.cons_append]
    rw [Ok, ih, show Ok lo (a :: c :: r) ↔ (lo ≤ a.f ∧ a.f < a.t ∧ Ok a.t (c :: r) ∧ ∀ b, (c :: r).head? = some b → b.f = a.t → b.v ≠ a.v) from Iff.rfl]
    simp only [List.head?_cons, List.getLast?_cons_cons, hi]
    constructor
    · rintro ⟨h1, h2, ⟨h3, h4, h5, h6⟩, h7⟩; exact ⟨⟨h1, h2, h3, h7⟩, h4, h5, h6⟩
    · rintro ⟨⟨h1, h2, h3, h7⟩, h4, h5, h6⟩; exact ⟨h1, h2, ⟨h3, h4, h5, h6⟩, h7⟩

theorem look_lo {lo y : Int} (h : y < lo) : ∀ {l : List (Seg α)}, Srt lo l → look l y = none
  | [], _ => rfl
  | s :: r, hs => by
    have h1 := hs.1
    have h2 := hs.2.1
    rw [look, if_neg (by omega)]
    exact look_lo (by omega) hs.2.2
theorem look_hi {lo y : Int} : ∀ {l : List (Seg α)}, Srt lo l → hi lo l ≤ y → look l y = none
  | [], _, _ => rfl
  | s :: r, hs, h => by
    have := hs.2.2.hi_le
    simp only [hi] at h
    rw [look, if_neg (by omega)]
    exact look_hi hs.2.2 h
theorem look_snoc {lo : Int} (s : Seg α) (y : Int) : ∀ {l : List (Seg α)}, Srt lo l → hi lo l ≤ s.f → look (l ++ [s]) y = if s.f ≤ y ∧ y < s.t then some s.v else look l y
  | [], _, _ => rfl
  | a :: r, hs, h => by
    have h1 := hs.2.2.hi_le
    simp only [hi] at h
    rw [List.cons_append, look, look_snoc s y hs.2.2 h, look]
    by_cases ha : a.f ≤ y ∧ y < a.t
    · rw [if_pos ha, if_neg (by omega), if_pos ha]
    · rw [if_neg ha, if_neg ha]

/-- Sorted, apart lists with the same look are the same. -/
theorem ok_unique {lo lo' : Int} : ∀ {l m : List (Seg α)}, Ok lo l → Ok lo' m → (∀ y, look l y = look m y) → l = m
  | [], [], _, _, _ => rfl
  | [], s :: r, _, h, e => by
    have := e s.f
    rw [look, look, if_pos ⟨Int.le_refl _, h.2.1⟩] at this
    cases this
  | s :: r, [], h, _, e => by
    have := e s.f
    rw [look, look, if_pos ⟨Int.le_refl _, h.2.1⟩] at this
    cases this
  | s :: r, s' :: r', h, h', e => by
    have sr := h.srt
    have sr' := h'.srt
    have l1 := h.2.1
    have l1' := h'.2.1
    have ef : s.f = s'.f := by
      have e1 := e s.f
      have e2 := e s'.f
      rw [show look (s :: r) s.f = some s.v by rw [look, if_pos ⟨Int.le_refl _, l1⟩]] at e1
      rw [show look (s' :: r') s'.f = some s'.v by rw [look, if_pos ⟨Int.le_refl _, l1'⟩]] at e2
      rcases Int.lt_trichotomy s.f s'.f with hc | hc | hc
      · rw [look_lo (l := s' :: r') (lo := s'.f) hc ⟨Int.le_refl _, sr'.2⟩] at e1; cases e1
      · exact hc
      · rw [look_lo (l := s :: r) (lo := s.f) hc ⟨Int.le_refl _, sr.2⟩] at e2; cases e2
    have ev : s.v = s'.v := by
      have e1 := e s.f
      rw [look, if_pos ⟨Int.le_refl _, l1⟩, look, if_pos ⟨by omega, by omega⟩] at e1
      exact Option.some.inj e1
    have key : ∀ {lo lo' : Int} {a a' : Seg α} {m m' : List (Seg α)}, Ok lo (a :: m) → Srt lo' (a' :: m') → a.f = a'.f → a.v = a'.v → (∀ y, look (a :: m) y = look (a' :: m') y) → ¬ a.t < a'.t := by
      intro lo lo' a a' m m' hm hm' hf hv he hc
      have e1 := he a.t
      have := hm.2.1
      rw [look, if_neg (by omega), look, if_pos ⟨by omega, hc⟩] at e1
      match m, hm, e1 with
      | [], _, e1 => cases e1
      | b :: q, hm, e1 =>
        have hb := hm.2.2.1
        have hne := hm.2.2.2 b rfl
        by_cases hbf : b.f = a.t
        · have := hb.2.1
          rw [look, if_pos ⟨by omega, by omega⟩] at e1
          exact hne hbf (by rw [hv]; exact Option.some.inj e1)
        · have h1 := hb.1
          rw [look_lo (l := b :: q) (lo := b.f) (by omega) ⟨Int.le_refl _, hb.srt.2⟩] at e1
          cases e1
    have et : s.t = s'.t := by
      rcases Int.lt_trichotomy s.t s'.t with hc | hc | hc
      · exact absurd hc (key h (sr') ef ev e)
      · exact hc
      · exact absurd hc (key h' sr ef.symm ev.symm fun y => (e y).symm)
    have es : s = s' := by
      cases s; cases s'; simp_all
    subst es
    congr 1
    refine ok_unique h.2.2.1 h'.2.2.1 fun y => ?_
    by_cases hy : y < s.t
    · rw [look_lo hy sr.2.2, look_lo hy sr'.2.2]
    · have := e y
      rwa [look, if_neg (by omega), look, if_neg (by omega)] at this

/-! putting together -/
end
section
variable {α : Type} [DecidableEq α]
def push1 (out : List (Seg α)) (s : Seg α) : List (Seg α) :=
  match out.getLast? with
  | some b => if b.t = s.f ∧ b.v = s.v then out.dropLast ++ [⟨b.f, s.t, b.v⟩] else out ++ [s]
  | none => out ++ [s]
def mrg (l : List (Seg α)) : List (Seg α) := l.foldl push1 []
theorem push1_spec {lo : Int} {out : List (Seg α)} {s : Seg α} (h : Ok lo out) (h1 : hi lo out ≤ s.f) (h2 : s.f < s.t) :
    Ok lo (push1 out s) ∧ hi lo (push1 out s) = s.t ∧ ∀ y, look (push1 out s) y = if s.f ≤ y ∧ y < s.t then some s.v else look out y := by
  rcases List.eq_nil_or_concat out with rfl | ⟨L, b, rfl⟩
  · exact ⟨⟨h1, h2, trivial, by simp⟩, rfl, fun y => rfl⟩
  · simp only [List.concat_eq_append] at *
    unfold push1
    rw [List.getLast?_concat]
    simp only [List.dropLast_concat]
    rw [hi_snoc] at h1
    have hk := (ok_snoc _ _ _).1 h
    by_cases hc : b.t = s.f ∧ b.v = s.v
    · rw [if_pos hc]
      refine ⟨(ok_snoc _ _ _).2 ⟨hk.1, hk.2.1, by simp only; omega, hk.2.2.2⟩, hi_snoc _ _ _, fun y => ?_⟩
      rw [look_snoc (⟨b.f, s.t, b.v⟩ : Seg α) y hk.1.srt hk.2.1, look_snoc b y hk.1.srt hk.2.1]
      have := hk.2.2.1
      by_cases h3 : s.f ≤ y ∧ y < s.t
      · rw [if_pos (by simp only; omega), if_pos h3, hc.2]
      · rw [if_neg h3]
        by_cases h4 : b.f ≤ y ∧ y < b.t
        · rw [if_pos (by simp only; omega), if_pos h4]
        · rw [if_neg (by simp only; omega), if_neg h4]
    · rw [if_neg hc]
      refine ⟨(ok_snoc _ _ _).2 ⟨h, by rw [hi_snoc]; exact h1, h2, fun c hc' e hv => ?_⟩, hi_snoc _ _ _, fun y => look_snoc _ y h.srt (by rw [hi_snoc]; exact h1)⟩
      rw [List.getLast?_concat] at hc'
      obtain rfl : b = c := by simpa using hc'
      exact hc ⟨e.symm, hv.symm⟩
theorem foldl_push {lo : Int} : ∀ (l : List (Seg α)) (out : List (Seg α)), Ok lo out → Srt (hi lo out) l →
    Ok lo (l.foldl push1 out) ∧ ∀ y, look (l.foldl push1 out) y = (look l y).or (look out y)
  | [], out, h, _ => ⟨h, fun y => by simp [look]⟩
  | s :: r, out, h, hs => by
    obtain ⟨k1, k2, k3⟩ := push1_spec h hs.1 hs.2.1
    obtain ⟨j1, j2⟩ := foldl_push r (push1 out s) k1 (by rw [k2]; exact hs.2.2)
    refine ⟨j1, fun y => ?_⟩
    rw [List.foldl_cons, j2, k3, look]
    by_cases hc : s.f ≤ y ∧ y < s.t
    · rw [if_pos hc, if_pos hc, look_lo (lo := s.t) hc.2 hs.2.2]; rfl
    · rw [if_neg hc, if_neg hc]
theorem mrg_ok {lo : Int} {l : List (Seg α)} (h : Srt lo l) : Ok lo (mrg l) := (foldl_push l [] trivial h).1
theorem mrg_look {lo : Int} {l : List (Seg α)} (h : Srt lo l) (y : Int) : look (mrg l) y = look l y := by
  rw [mrg, (foldl_push l [] trivial h).2 y]; cases look l y <;> rfl

end
section
variable {α : Type}
/-! numbers that rise, and what lies between them -/
def gaps : List Int → List (Int × Int)
  | a :: b :: r => (a, b) :: gaps (b :: r)
  | _ => []
def Inc : List Int → Prop
  | a :: b :: r => a < b ∧ Inc (b :: r)
  | _ => True
def cut (g : Int → Option α) (es : List Int) : List (Seg α) := (gaps es).filterMap fun p => (g p.1).map fun v => ⟨p.1, p.2, v⟩
theorem Inc.tail {a : Int} {r : List Int} (h : Inc (a :: r)) : Inc r := by cases r with | nil => trivial | cons b r => exact h.2
theorem Inc.le {a : Int} : ∀ {r : List Int}, Inc (a :: r) → ∀ e ∈ r, a < e
  | [], _, e, he => by cases he
  | b :: r, h, e, he => by
    rcases List.mem_cons.1 he with rfl | he
    · exact h.1
    · have := h.2.le e he; have := h.1; omega
theorem cut_srt (g : Int → Option α) : ∀ (a : Int) (r : List Int), Inc (a :: r) → Srt a (cut g (a :: r))
  | a, [], _ => trivial
  | a, b :: r, h => by
    have ih := cut_srt g b r h.2
    unfold cut at ih ⊢
    rw [gaps, List.filterMap_cons]
    cases g a with
    | none => exact ih.mono (by have := h.1; omega)
    | some v => exact ⟨Int.le_refl _, h.1, ih⟩
/-- What does not turn between the edges, and is nothing beyond them, is what is cut at them. -/
theorem cut_look (g : Int → Option α) : ∀ (a : Int) (r : List Int), Inc (a :: r) → (∀ p ∈ gaps (a :: r), ∀ y, p.1 ≤ y → y < p.2 → g y = g p.1) → (∀ y, (∀ e ∈ a :: r, e ≤ y) → g y = none) →
    ∀ y, a ≤ y → look (cut g (a :: r)) y = g y
  | a, [], _, _, ho, y, hy => by rw [ho y (by simpa using hy)]; rfl
  | a, b :: r, h, hc, ho, y, hy => by
    have hs := cut_srt g b r h.2
    have ih := cut_look g b r h.2 (fun p hp => hc p (by rw [gaps]; exact List.mem_cons_of_mem _ hp)) (fun z hz => ho z fun e he => by
      rcases List.mem_cons.1 he with h5 | he
      · have := hz b (by simp); have := h.1; omega
      · exact hz e he)
    by_cases hb : y < b
    · have hg := hc (a, b) (by rw [gaps]; exact List.mem_cons_self) y hy hb
      simp only at hg
      rw [hg]
      have hn : look (cut g (b :: r)) y = none := look_lo hb hs
      unfold cut at hn ⊢
      rw [gaps, List.filterMap_cons]
      cases hga : g a with
      | none => simpa using hn
      | some v => simp only [Option.map_some]; rw [look, if_pos ⟨hy, hb⟩]
    · have hn := ih y (by omega)
      unfold cut at hn ⊢
      rw [gaps, List.filterMap_cons]
      cases hga : g a with
      | none => simpa using hn
      | some v => simp only [Option.map_some]; rw [look, if_neg (by simp only; omega)]; exact hn
theorem gaps_mem : ∀ {es : List Int} {p : Int × Int}, Inc es → p ∈ gaps es → p.1 ∈ es ∧ p.2 ∈ es ∧ p.1 < p.2 ∧ ∀ e ∈ es, e ≤ p.1 ∨ p.2 ≤ e
  | a :: b :: r, p, h, hp => by
    rw [gaps] at hp
    rcases List.mem_cons.1 hp with rfl | hp
    · refine ⟨by simp, by simp, h.1, fun e he => ?_⟩
      rcases List.mem_cons.1 he with rfl | he
      · exact .inl (Int.le_refl _)
      · rcases List.mem_cons.1 he with rfl | he
        · exact .inr (Int.le_refl _)
        · exact .inr (Int.le_of_lt (h.2.le e he))
    · obtain ⟨h1, h2, h3, h4⟩ := gaps_mem h.2 hp
      refine ⟨List.mem_cons_of_mem _ h1, List.mem_cons_of_mem _ h2, h3, fun e he => ?_⟩
      rcases List.mem_cons.1 he with rfl | he
      · rcases List.mem_cons.1 h1 with h5 | h5
        · have := h.1; omega
        · have := h.2.le _ h5; have := h.1; omega
      · exact h4 e he
  | [], p, _, hp => by cases hp
  | [a], p, _, hp => by cases hp

/-- the edges of a row of segments -/
def ends (l : List (Seg α)) : List Int := l.flatMap fun s => [s.f, s.t]
theorem mem_ends {l : List (Seg α)} {e : Int} : e ∈ ends l ↔ ∃ s ∈ l, e = s.f ∨ e = s.t := by simp [ends]
theorem look_congr {y z : Int} : ∀ {l : List (Seg α)}, (∀ s ∈ l, (s.f ≤ y ↔ s.f ≤ z) ∧ (s.t ≤ y ↔ s.t ≤ z)) → look l y = look l z
  | [], _ => rfl
  | s :: r, h => by
    have h1 := h s (by simp)
    have ih := look_congr (l := r) fun s hs => h s (by simp [hs])
    rw [look, look, ih]
    by_cases hc : s.f ≤ y ∧ y < s.t
    · rw [if_pos hc, if_pos (by omega)]
    · rw [if_neg hc, if_neg (by omega)]
theorem look_step {l : List (Seg α)} {es : List Int} (hi : Inc es) (hm : ∀ e ∈ ends l, e ∈ es) {p : Int × Int} (hp : p ∈ gaps es) {y : Int} (h1 : p.1 ≤ y) (h2 : y < p.2) : look l y = look l p.1 := by
  obtain ⟨_, _, h3, h4⟩ := gaps_mem hi hp
  refine look_congr fun s hs => ?_
  have a := h4 s.f (hm _ (mem_ends.2 ⟨s, hs, .inl rfl⟩))
  have b := h4 s.t (hm _ (mem_ends.2 ⟨s, hs, .inr rfl⟩))
  omega
theorem look_mem {y : Int} {v : α} : ∀ {l : List (Seg α)}, look l y = some v → ∃ s ∈ l, s.f ≤ y ∧ y < s.t ∧ s.v = v
  | s :: r, h => by
    rw [look] at h
    split at h
    · rename_i hc; exact ⟨s, by simp, hc.1, hc.2, by simpa using h⟩
    · obtain ⟨x, hx, h'⟩ := look_mem h; exact ⟨x, by simp [hx], h'⟩
theorem mem_look {lo y : Int} : ∀ {l : List (Seg α)}, Srt lo l → ∀ s ∈ l, s.f ≤ y → y < s.t → look l y = some s.v
  | a :: r, hs, s, hm, h1, h2 => by
    rcases List.mem_cons.1 hm with rfl | hm
    · rw [look, if_pos ⟨h1, h2⟩]
    · have ih := mem_look hs.2.2 s hm h1 h2
      rw [look, if_neg, ih]
      intro hc
      rw [look_lo hc.2 hs.2.2] at ih
      cases ih
theorem look_none {y : Int} : ∀ {l : List (Seg α)}, (∀ s ∈ l, ¬ (s.f ≤ y ∧ y < s.t)) → look l y = none
  | [], _ => rfl
  | s :: r, h => by rw [look, if_neg (h s (by simp))]; exact look_none fun x hx => h x (by simp [hx])
end
end Go.Proofs.YtjjdgbhplechbaaGreatDoor.Reg
/- Plain laws on regions: a list of rectangles as bands of spans; there is one for one set of points. No program. -/
namespace Go.Proofs.YtjjdgbhplechbaaGreatDoor.Reg
open Go.Proofs.YtjjdgbhplechbaaGreatDoor.Rect

abbrev Sp := Seg Unit
abbrev Bd := Seg (List Sp)
/-- a span as a rectangle of a band -/
def spR (f t : Int) (s : Sp) : R := ⟨s.f, f, s.t - s.f, t - f⟩
def bdR (b : Bd) : List R := b.v.map (spR b.f b.t)
def flat (B : List Bd) : List R := B.flatMap bdR
def Canon (B : List Bd) : Prop := (∃ lo, Ok lo B) ∧ ∀ b ∈ B, b.v ≠ [] ∧ ∃ lo, Ok lo b.v
def inB (B : List Bd) (p q : Int) : Prop := ∃ v, look B q = some v ∧ look v p = some ()
def hasL (l : List R) (p q : Int) : Bool := l.any fun r => rHas r p q
theorem hasL_iff {l : List R} {p q : Int} : hasL l p q = true ↔ ∃ r ∈ l, inR r p q := by simp [hasL, has_iff]
theorem look_u {l : List Sp} {p : Int} : look l p = some () ↔ look l p ≠ none := by cases look l p <;> simp
theorem ok_some {α : Type} {lo : Int} {l : List (Seg α)} (h : Ok lo l) (hn : l ≠ []) : ∃ y v, look l y = some v := by
  cases l with
  | nil => exact absurd rfl hn
  | cons s r => exact ⟨s.f, s.v, by rw [look, if_pos ⟨Int.le_refl _, h.2.1⟩]⟩

theorem canon_unique {B B' : List Bd} (h : Canon B) (h' : Canon B') (e : ∀ p q, inB B p q ↔ inB B' p q) : B = B' := by
  obtain ⟨⟨lo, ho⟩, hv⟩ := h
  obtain ⟨⟨lo', ho'⟩, hv'⟩ := h'
  have key : ∀ {B B' : List Bd}, (∀ b ∈ B, b.v ≠ [] ∧ ∃ lo, Ok lo b.v) → (∀ b ∈ B', b.v ≠ [] ∧ ∃ lo, Ok lo b.v) → (∀ p q, inB B p q ↔ inB B' p q) → ∀ q v, look B q = some v → look B' q = some v := by
    intro B B' hv hv' e q v hq
    obtain ⟨b, hb, _, _, rfl⟩ := look_mem hq
    obtain ⟨hn, l1, hok⟩ := hv b hb
    obtain ⟨p, u, hp⟩ := ok_some hok hn
    obtain ⟨v', hq', hp'⟩ := (e p q).1 ⟨b.v, hq, hp⟩
    rw [hq']
    obtain ⟨b', hb', _, _, rfl⟩ := look_mem hq'
    obtain ⟨hn', l2, hok'⟩ := hv' b' hb'
    congr 1
    refine ok_unique hok' hok fun y => ?_
    have a : look b'.v y = some () ↔ look b.v y = some () := by
      constructor
      · intro h
        obtain ⟨x, hx, hy⟩ := (e y q).2 ⟨b'.v, hq', h⟩
        rw [hq] at hx; cases hx; exact hy
      · intro h
        obtain ⟨x, hx, hy⟩ := (e y q).1 ⟨b.v, hq, h⟩
        rw [hq'] at hx; cases hx; exact hy
    cases h1 : look b'.v y <;> cases h2 : look b.v y <;> simp_all
  refine ok_unique ho ho' fun q => ?_
  cases hq : look B q with
  | some v => exact (key hv hv' e q v hq).symm
  | none =>
    cases hq' : look B' q with
    | none => rfl
    | some v =>
      have := key hv' hv (fun p q => (e p q).symm) q v hq'
      rw [hq] at this; cases this

theorem mem_flat {B : List Bd} {r : R} : r ∈ flat B ↔ ∃ b ∈ B, ∃ s ∈ b.v, r = spR b.f b.t s := by
  simp only [flat, bdR, List.mem_flatMap, List.mem_map]
  constructor
  · rintro ⟨b, hb, s, hs, rfl⟩; exact ⟨b, hb, s, hs, rfl⟩
  · rintro ⟨b, hb, s, hs, rfl⟩; exact ⟨b, hb, s, hs, rfl⟩
theorem inR_sp {f t p q : Int} {s : Sp} (h1 : f < t) (h2 : s.f < s.t) : inR (spR f t s) p q ↔ (s.f ≤ p ∧ p < s.t) ∧ f ≤ q ∧ q < t := by
  unfold inR spR; simp only; omega
theorem srt_mem {α : Type} {lo : Int} : ∀ {l : List (Seg α)}, Srt lo l → ∀ s ∈ l, lo ≤ s.f ∧ s.f < s.t
  | a :: r, h, s, hs => by
    rcases List.mem_cons.1 hs with rfl | hs
    · exact ⟨h.1, h.2.1⟩
    · have := srt_mem h.2.2 s hs; have := h.1; have := h.2.1; omega
/-- The points of a list of rectangles that is sorted in bands. -/
theorem has_flat {lo : Int} {B : List Bd} (h : Srt lo B) (hv : ∀ b ∈ B, ∃ lo, Srt lo b.v) {p q : Int} : (∃ r ∈ flat B, inR r p q) ↔ inB B p q := by
  constructor
  · rintro ⟨r, hr, hi⟩
    obtain ⟨b, hb, s, hs, rfl⟩ := mem_flat.1 hr
    obtain ⟨l1, h1⟩ := hv b hb
    have k1 := srt_mem h b hb
    have k2 := srt_mem h1 s hs
    obtain ⟨h2, h3⟩ := (inR_sp k1.2 k2.2).1 hi
    exact ⟨b.v, mem_look h b hb h3.1 h3.2, mem_look h1 s hs h2.1 h2.2⟩
  · rintro ⟨v, hq, hp⟩
    obtain ⟨b, hb, h1, h2, rfl⟩ := look_mem hq
    obtain ⟨s, hs, h3, h4, _⟩ := look_mem hp
    obtain ⟨l1, hl⟩ := hv b hb
    exact ⟨_, mem_flat.2 ⟨b, hb, s, hs, rfl⟩, (inR_sp (srt_mem h b hb).2 (srt_mem hl s hs).2).2 ⟨⟨h3, h4⟩, h1, h2⟩⟩

/-- A list of rectangles is the region of a set of points. -/
def IsReg (l : List R) (S : Int → Int → Prop) : Prop := ∃ B, Canon B ∧ l = flat B ∧ ∀ p q, inB B p q ↔ S p q
theorem IsReg.unique {l m : List R} {S T : Int → Int → Prop} (h : IsReg l S) (k : IsReg m T) (e : ∀ p q, S p q ↔ T p q) : l = m := by
  obtain ⟨B, c, rfl, hB⟩ := h
  obtain ⟨C, d, rfl, hC⟩ := k
  rw [canon_unique c d fun p q => (hB p q).trans ((e p q).trans (hC p q).symm)]
theorem IsReg.congr {l : List R} {S T : Int → Int → Prop} (h : IsReg l S) (e : ∀ p q, S p q ↔ T p q) : IsReg l T := by
  obtain ⟨B, c, rfl, hB⟩ := h
  exact ⟨B, c, rfl, fun p q => (hB p q).trans (e p q)⟩
theorem IsReg.has {l : List R} {S : Int → Int → Prop} (h : IsReg l S) {p q : Int} : hasL l p q = true ↔ S p q := by
  obtain ⟨B, ⟨⟨lo, ho⟩, hv⟩, rfl, hB⟩ := h
  rw [hasL_iff, has_flat ho.srt fun b hb => (hv b hb).2.imp fun _ h => h.srt]
  exact hB p q
theorem IsReg.nil : IsReg [] fun _ _ => False := ⟨[], ⟨⟨0, trivial⟩, by simp⟩, rfl, by simp [inB, look]⟩
theorem IsReg.one {r : R} (h : emp r = false) : IsReg [r] (inR r) := by
  have h := emp_f.1 h
  refine ⟨[⟨r.y, r.y + r.h, [⟨r.x, r.x + r.w, ()⟩]⟩], ⟨⟨r.y, ?_⟩, ?_⟩, ?_, fun p q => ?_⟩
  · exact ⟨Int.le_refl _, by simp only; omega, trivial, by simp⟩
  · intro b hb
    obtain rfl : b = _ := by simpa using hb
    exact ⟨by simp, r.x, Int.le_refl _, by simp only; omega, trivial, by simp⟩
  · have e1 : r.x + r.w - r.x = r.w := by omega
    have e2 : r.y + r.h - r.y = r.h := by omega
    simp [flat, bdR, spR, e1, e2]
  · simp only [inB, look, inR]
    constructor
    · rintro ⟨v, h1, h2⟩
      split at h1
      · obtain rfl := Option.some.inj h1
        simp only [look] at h2
        split at h2
        · omega
        · cases h2
      · cases h1
    · intro h1
      exact ⟨_, by rw [if_pos (by omega)], by rw [look, if_pos (by simp only; omega)]⟩

/-- the field -/
def fld (p q : Int) : Prop := -16777216 ≤ p ∧ p < 16777216 ∧ -16777216 ≤ q ∧ q < 16777216
theorem IsReg.chk {l : List R} {S : Int → Int → Prop} (h : IsReg l S) (hf : ∀ p q, S p q → fld p q) : ∀ r ∈ l, chkR r := by
  intro r hr
  have he : emp r = false := by
    obtain ⟨B, ⟨⟨lo, ho⟩, hv⟩, rfl, hB⟩ := h
    obtain ⟨b, hb, s, hs, rfl⟩ := mem_flat.1 hr
    obtain ⟨_, l1, h1⟩ := hv b hb
    have k1 := srt_mem ho.srt b hb
    have k2 := srt_mem h1.srt s hs
    rw [emp_f]; unfold spR; simp only; omega
  have he' := emp_f.1 he
  have a := hf _ _ (h.has.1 (hasL_iff.2 ⟨r, hr, (show inR r r.x r.y by unfold inR; omega)⟩))
  have b := hf _ _ (h.has.1 (hasL_iff.2 ⟨r, hr, (show inR r (r.x + r.w - 1) (r.y + r.h - 1) by unfold inR; omega)⟩))
  unfold fld at a b
  unfold chkR; omega

/-! numbers, rising -/
def addE : List Int → Int → List Int
  | [], v => [v]
  | a :: r, v => if v < a then v :: a :: r else if v = a then a :: r else a :: addE r v
def esort (l : List Int) : List Int := l.foldl addE []
theorem mem_addE {e v : Int} : ∀ {l : List Int}, e ∈ addE l v ↔ e = v ∨ e ∈ l
  | [] => by simp [addE]
  | a :: r => by
    rw [addE]
    split
    · simp
    · split
      · rename_i h; subst h; simp
      · simp only [List.mem_cons, mem_addE (l := r)]; constructor <;> (intro h; rcases h with h | h | h <;> simp [h])
theorem inc_addE {v : Int} : ∀ {l : List Int}, Inc l → Inc (addE l v)
  | [], _ => trivial
  | a :: r, h => by
    rw [addE]
    split
    · exact ⟨by assumption, h⟩
    · split
      · exact h
      · have ih := inc_addE (v := v) h.tail
        cases r with
        | nil => exact ⟨by omega, trivial⟩
        | cons b q =>
          have hab := h.1
          rw [addE] at ih ⊢
          split
          · rename_i hc; rw [if_pos hc] at ih; exact ⟨by omega, ih⟩
          · rename_i hc; rw [if_neg hc] at ih
            split
            · rename_i hd; rw [if_pos hd] at ih; exact ⟨hab, ih⟩
            · rename_i hd; rw [if_neg hd] at ih; exact ⟨hab, ih⟩
theorem foldl_addE : ∀ (l acc : List Int), Inc acc → Inc (l.foldl addE acc) ∧ ∀ e, e ∈ l.foldl addE acc ↔ e ∈ l ∨ e ∈ acc
  | [], acc, h => ⟨h, by simp⟩
  | a :: r, acc, h => by
    obtain ⟨h1, h2⟩ := foldl_addE r (addE acc a) (inc_addE h)
    refine ⟨h1, fun e => ?_⟩
    rw [List.foldl_cons, h2, mem_addE, List.mem_cons]
    constructor
    · rintro (h | rfl | h) <;> simp [*]
    · rintro ((rfl | h) | h) <;> simp [*]
theorem inc_esort (l : List Int) : Inc (esort l) := (foldl_addE l [] trivial).1
theorem mem_esort {l : List Int} {e : Int} : e ∈ esort l ↔ e ∈ l := by rw [esort, (foldl_addE l [] trivial).2]; simp
theorem inc_unique : ∀ {l m : List Int}, Inc l → Inc m → (∀ e, e ∈ l ↔ e ∈ m) → l = m
  | [], [], _, _, _ => rfl
  | [], b :: q, _, _, e => by have := (e b).2 (by simp); cases this
  | a :: r, [], _, _, e => by have := (e a).1 (by simp); cases this
  | a :: r, b :: q, h, k, e => by
    have hab : a = b := by
      rcases List.mem_cons.1 ((e a).1 (by simp)) with h1 | h1
      · exact h1
      · rcases List.mem_cons.1 ((e b).2 (by simp)) with h2 | h2
        · exact h2.symm
        · have := h.le b h2; have := k.le a h1; omega
    subst hab
    rw [inc_unique h.tail k.tail fun x => ?_]
    constructor
    · intro hx
      rcases List.mem_cons.1 ((e x).1 (by simp [hx])) with h1 | h1
      · subst h1; have := h.le x hx; omega
      · exact h1
    · intro hx
      rcases List.mem_cons.1 ((e x).2 (by simp [hx])) with h1 | h1
      · subst h1; have := k.le x hx; omega
      · exact h1
theorem esort_eq {l es : List Int} (h : Inc es) (hm : ∀ e, e ∈ es ↔ e ∈ l) : es = esort l :=
  inc_unique h (inc_esort l) fun e => by rw [hm, mem_esort]

/-- What is cut at sorted edges and put together, out of a function that turns only at them. -/
theorem cut_any {α : Type} [DecidableEq α] (g : Int → Option α) {es : List Int} (hi : Inc es) (hc : ∀ p ∈ gaps es, ∀ y, p.1 ≤ y → y < p.2 → g y = g p.1)
    (ho : ∀ y, (∀ e ∈ es, e ≤ y) ∨ (∀ e ∈ es, y < e) → g y = none) : (∃ lo, Srt lo (cut g es)) ∧ (∃ lo, Ok lo (mrg (cut g es))) ∧ ∀ y, look (mrg (cut g es)) y = g y := by
  cases es with
  | nil => exact ⟨⟨0, trivial⟩, ⟨0, trivial⟩, fun y => (ho y (.inl (by simp))).symm⟩
  | cons a r =>
    have hs := cut_srt g a r hi
    refine ⟨⟨a, hs⟩, ⟨a, mrg_ok hs⟩, fun y => ?_⟩
    rw [mrg_look hs]
    by_cases hy : a ≤ y
    · exact cut_look g a r hi hc (fun y hy => ho y (.inl hy)) y hy
    · rw [look_lo (by omega) hs, ho y (.inr ?_)]
      intro e he
      rcases List.mem_cons.1 he with rfl | he
      · omega
      · have := hi.le e he; omega

/-- A region of bands, cut at edges: the points. -/
theorem reg_of {S : Int → Int → Prop} (G : Int → List Sp) {es : List Int} (hi : Inc es) (hG : ∀ q, (∃ lo, Ok lo (G q)) ∧ ∀ p, look (G q) p = some () ↔ S p q)
    (hc : ∀ c ∈ gaps es, ∀ q, c.1 ≤ q → q < c.2 → ∀ p, S p q ↔ S p c.1) (ho : ∀ q, (∀ e ∈ es, e ≤ q) ∨ (∀ e ∈ es, q < e) → ∀ p, ¬ S p q) :
    IsReg (flat (mrg (cut (fun q => if G q = [] then none else some (G q)) es))) S := by
  have hGe : ∀ q q', (∀ p, S p q ↔ S p q') → G q = G q' := by
    intro q q' h
    obtain ⟨⟨lo, h1⟩, h2⟩ := hG q
    obtain ⟨⟨lo', h1'⟩, h2'⟩ := hG q'
    refine ok_unique h1 h1' fun p => ?_
    have := ((h2 p).trans (h p)).trans (h2' p).symm
    cases a : look (G q) p <;> cases b : look (G q') p <;> simp_all
  have hGn : ∀ q, (∀ p, ¬ S p q) → G q = [] := by
    intro q h
    obtain ⟨⟨lo, h1⟩, h2⟩ := hG q
    refine ok_unique h1 (lo' := 0) (m := []) trivial fun p => ?_
    have := mt (h2 p).1 (h p)
    cases a : look (G q) p <;> simp_all [look]
  obtain ⟨hs, ⟨lo, ho'⟩, hl⟩ := cut_any (fun q => if G q = [] then none else some (G q)) hi (fun c hcm q h1 h2 => by rw [hGe q c.1 (hc c hcm q h1 h2)]) fun q h => by
    rw [if_pos (hGn q (ho q h))]
  refine ⟨_, ⟨⟨lo, ho'⟩, fun b hb => ?_⟩, rfl, fun p q => ?_⟩
  · have hbl := mem_look ho'.srt b hb (Int.le_refl _) (srt_mem ho'.srt b hb).2
    rw [hl] at hbl
    split at hbl
    · cases hbl
    · rename_i hne
      rw [← Option.some.inj hbl]
      exact ⟨hne, (hG b.f).1⟩
  · unfold inB
    simp only [hl]
    constructor
    · rintro ⟨v, h1, h2⟩
      split at h1
      · cases h1
      · rw [← Option.some.inj h1] at h2
        exact ((hG q).2 p).1 h2
    · intro h
      have h1 := ((hG q).2 p).2 h
      have hne : G q ≠ [] := fun h2 => by rw [h2] at h1; cases h1
      exact ⟨G q, by rw [if_neg hne], h1⟩
end Go.Proofs.YtjjdgbhplechbaaGreatDoor.Reg
/- Plain laws on regions: the program's own way, and the reference's: both are the one region of the points. No program. -/
namespace Go.Proofs.YtjjdgbhplechbaaGreatDoor.Reg
open Go.Proofs.YtjjdgbhplechbaaGreatDoor.Rect

/-! a list as bands -/
def lastT (v : List Sp) : Int := match v.getLast? with | some s => s.t | none => 0
def rSp (r : R) : Sp := ⟨r.x, r.x + r.w, ()⟩
def rBd (r : R) : Bd := ⟨r.y, r.y + r.h, [rSp r]⟩
def bandStep (out : List Bd) (r : R) : Option (List Bd) :=
  if rChk r then
    match out.getLast? with
    | none => some (out ++ [rBd r])
    | some b =>
      if b.f = r.y then (if b.t ≠ r.y + r.h ∨ r.x ≤ lastT b.v then none else some (out.dropLast ++ [⟨b.f, b.t, b.v ++ [rSp r]⟩]))
      else if r.y < b.t then none else some (out ++ [rBd r])
  else none
def bandAll (out : List Bd) : List R → Option (List Bd)
  | [] => some out
  | r :: l => (bandStep out r).bind fun o => bandAll o l
def adjBad : List Bd → Bool
  | a :: b :: r => (b.f == a.t && b.v == a.v) || adjBad (b :: r)
  | _ => false
def bandsF (l : List R) : Option (List Bd) := (bandAll [] l).bind fun B => if adjBad B then none else some B

/-- bands in the making -/
def Inv (B : List Bd) : Prop := (∃ lo, Srt lo B) ∧ ∀ b ∈ B, b.v ≠ [] ∧ ∃ lo, Ok lo b.v
theorem flat_snoc (L : List Bd) (b : Bd) : flat (L ++ [b]) = flat L ++ bdR b := by simp [flat]
theorem flat_cons (b : Bd) (L : List Bd) : flat (b :: L) = bdR b ++ flat L := by simp [flat]
theorem flat_app (L M : List Bd) : flat (L ++ M) = flat L ++ flat M := by simp [flat]
theorem bdR_rBd (r : R) : bdR (rBd r) = [r] := by
  have e1 : r.x + r.w - r.x = r.w := by omega
  have e2 : r.y + r.h - r.y = r.h := by omega
  simp [bdR, spR, rBd, rSp, e1, e2]
theorem ok_one {α : Type} {lo : Int} {s : Seg α} (h1 : lo ≤ s.f) (h2 : s.f < s.t) : Ok lo [s] := ⟨h1, h2, trivial, by simp⟩
theorem lastT_snoc (v : List Sp) (s : Sp) : lastT (v ++ [s]) = s.t := by simp [lastT]
theorem ok_sp_snoc {lo : Int} {v : List Sp} {s : Sp} (h : Ok lo v) (hn : v ≠ []) (h1 : lastT v < s.f) (h2 : s.f < s.t) : Ok lo (v ++ [s]) := by
  rcases List.eq_nil_or_concat v with rfl | ⟨L, b, rfl⟩
  · exact absurd rfl hn
  · simp only [List.concat_eq_append] at *
    rw [lastT_snoc] at h1
    refine (ok_snoc _ _ _).2 ⟨h, by rw [hi_snoc]; omega, h2, fun c hc e => ?_⟩
    rw [List.getLast?_concat] at hc
    obtain rfl : b = c := by simpa using hc
    omega
theorem ok_app {α : Type} {l m : List (Seg α)} : ∀ {lo : Int}, Ok lo (l ++ m) → Ok lo l ∧ Ok (hi lo l) m := by
  induction l with
  | nil => exact fun h => ⟨trivial, h⟩
  | cons a r ih =>
    intro lo h
    obtain ⟨h1, h2, h3, h4⟩ := h
    obtain ⟨k1, k2⟩ := ih h3
    refine ⟨⟨h1, h2, k1, fun b hb => h4 b ?_⟩, k2⟩
    cases r with
    | nil => cases hb
    | cons c q => simpa using hb
theorem ok_sp_last {lo : Int} {v w : List Sp} {s : Sp} (h : Ok lo (v ++ s :: w)) (hn : v ≠ []) : lastT v < s.f ∧ s.f < s.t := by
  rcases List.eq_nil_or_concat v with rfl | ⟨L, b, rfl⟩
  · exact absurd rfl hn
  · simp only [List.concat_eq_append] at *
    rw [show L ++ [b] ++ s :: w = (L ++ [b] ++ [s]) ++ w by simp] at h
    have h := (ok_snoc _ _ _).1 (ok_app h).1
    rw [hi_snoc] at h
    rw [lastT_snoc]
    refine ⟨?_, h.2.2.1⟩
    rcases Int.lt_or_eq_of_le h.2.1 with h1 | h1
    · exact h1
    · exact absurd rfl (h.2.2.2 b List.getLast?_concat h1.symm)

theorem step_inv {out B : List Bd} {r : R} (h : Inv out) (e : bandStep out r = some B) : Inv B ∧ flat B = flat out ++ [r] ∧ rChk r = true := by
  unfold bandStep at e
  split at e
  case isFalse => cases e
  rename_i hc
  have hcr := chk_iff.1 hc
  unfold chkR at hcr
  have hb0 : (rBd r).f < (rBd r).t := by unfold rBd; simp only; omega
  have hs0 : (rSp r).f < (rSp r).t := by unfold rSp; simp only; omega
  have hv0 : (rBd r).v ≠ [] ∧ ∃ lo, Ok lo (rBd r).v := ⟨by simp [rBd], _, ok_one (Int.le_refl _) hs0⟩
  rcases List.eq_nil_or_concat out with rfl | ⟨L, b, rfl⟩
  · simp only [List.getLast?_nil] at e
    obtain rfl := Option.some.inj e
    refine ⟨⟨⟨(rBd r).f, Int.le_refl _, hb0, trivial⟩, ?_⟩, by simp [flat, bdR_rBd], hc⟩
    intro b hb
    obtain rfl : b = rBd r := by simpa using hb
    exact hv0
  · simp only [List.concat_eq_append, List.getLast?_concat, List.dropLast_concat] at e h
    obtain ⟨⟨lo, hs⟩, hv⟩ := h
    have hs' := (srt_snoc _ _ _).1 hs
    split at e
    · rename_i hf
      split at e
      · cases e
      · rename_i hg
        simp only [not_or, Decidable.not_not, Int.not_le] at hg
        obtain rfl := Option.some.inj e
        have hbv := hv b (by simp)
        refine ⟨⟨⟨lo, (srt_snoc _ _ _).2 hs'⟩, fun c hcm => ?_⟩, ?_, hc⟩
        · rcases List.mem_append.1 hcm with h1 | h1
          · exact hv c (by simp [h1])
          · obtain rfl : c = _ := by simpa using h1
            obtain ⟨hn, l1, h2⟩ := hbv
            exact ⟨by simp, l1, ok_sp_snoc h2 hn hg.2 hs0⟩
        · rw [List.concat_eq_append, flat_snoc, flat_snoc, List.append_assoc]
          congr 1
          simp only [bdR, List.map_append, List.map_cons, List.map_nil]
          congr 2
          unfold spR rSp
          apply R.ext' <;> simp only <;> omega
    · rename_i hf
      split at e
      · cases e
      · rename_i hg
        obtain rfl := Option.some.inj e
        refine ⟨⟨⟨lo, (srt_snoc _ _ _).2 ⟨hs, by rw [hi_snoc]; unfold rBd; simp only; omega, hb0⟩⟩, fun c hcm => ?_⟩, by rw [List.concat_eq_append, flat_snoc, bdR_rBd], hc⟩
        rcases List.mem_append.1 hcm with h1 | h1
        · exact hv c h1
        · obtain rfl : c = rBd r := by simpa using h1
          exact hv0
theorem all_inv : ∀ {l : List R} {out B : List Bd}, Inv out → bandAll out l = some B → Inv B ∧ flat B = flat out ++ l ∧ ∀ r ∈ l, rChk r = true
  | [], out, B, h, e => by
    obtain rfl := Option.some.inj e
    exact ⟨h, by simp, by simp⟩
  | r :: l, out, B, h, e => by
    rw [bandAll] at e
    cases hs : bandStep out r with
    | none => rw [hs] at e; cases e
    | some o =>
      rw [hs] at e
      obtain ⟨h1, h2, h3⟩ := step_inv h hs
      obtain ⟨k1, k2, k3⟩ := all_inv h1 e
      refine ⟨k1, by rw [k2, h2]; simp, fun x hx => ?_⟩
      rcases List.mem_cons.1 hx with rfl | hx
      · exact h3
      · exact k3 x hx
theorem ok_of_adj : ∀ {B : List Bd} {lo : Int}, Srt lo B → adjBad B = false → Ok lo B
  | [], _, _, _ => trivial
  | [a], _, h, _ => ok_one h.1 h.2.1
  | a :: b :: r, lo, h, e => by
    simp only [adjBad, Bool.or_eq_false_iff, Bool.and_eq_false_iff, beq_eq_false_iff_ne] at e
    refine ⟨h.1, h.2.1, ok_of_adj h.2.2 e.2, fun c hc h1 => ?_⟩
    obtain rfl : b = c := by simpa using hc
    rcases e.1 with h2 | h2
    · exact absurd h1 h2
    · exact h2
theorem adj_of_ok : ∀ {B : List Bd} {lo : Int}, Ok lo B → adjBad B = false
  | [], _, _ => rfl
  | [a], _, _ => rfl
  | a :: b :: r, lo, h => by
    simp only [adjBad, Bool.or_eq_false_iff, Bool.and_eq_false_iff, beq_eq_false_iff_ne]
    refine ⟨?_, adj_of_ok h.2.2.1⟩
    by_cases h1 : b.f = a.t
    · exact .inr (h.2.2.2 b rfl h1)
    · exact .inl h1
theorem Canon.inv {B : List Bd} (h : Canon B) : Inv B := ⟨h.1.imp fun _ h => h.srt, h.2⟩
theorem inv_nil : Inv [] := ⟨⟨0, trivial⟩, by simp⟩
theorem bands_sound {l : List R} {B : List Bd} (e : bandsF l = some B) : Canon B ∧ l = flat B ∧ ∀ r ∈ l, rChk r = true := by
  unfold bandsF at e
  cases h : bandAll [] l with
  | none => rw [h] at e; cases e
  | some C =>
    rw [h] at e
    simp only [Option.bind_some] at e
    split at e
    · cases e
    · rename_i ha
      obtain rfl := Option.some.inj e
      obtain ⟨h1, h2, h3⟩ := all_inv inv_nil h
      obtain ⟨⟨lo, hs⟩, hv⟩ := h1
      exact ⟨⟨⟨lo, ok_of_adj hs (by simpa using ha)⟩, hv⟩, by rw [h2]; simp [flat], h3⟩

theorem spR_y (f t : Int) (s : Sp) : (spR f t s).y = f := rfl
theorem rSp_sp (f t : Int) (s : Sp) : rSp (spR f t s) = s := by
  have e : s.f + (s.t - s.f) = s.t := by omega
  unfold rSp spR
  simp only [e]
theorem band_in : ∀ (w v : List Sp) (L : List Bd) (f t lo : Int), v ≠ [] → Ok lo (v ++ w) → (∀ s ∈ w, rChk (spR f t s) = true) →
    bandAll (L ++ [⟨f, t, v⟩]) (w.map (spR f t)) = some (L ++ [⟨f, t, v ++ w⟩])
  | [], v, L, f, t, lo, _, _, _ => by simp [bandAll]
  | s :: w, v, L, f, t, lo, hn, h, hc => by
    have hl := ok_sp_last h hn
    rw [List.map_cons, bandAll]
    have hst : bandStep (L ++ [⟨f, t, v⟩]) (spR f t s) = some (L ++ [⟨f, t, v ++ [s]⟩]) := by
      unfold bandStep
      rw [if_pos (hc s (by simp)), List.getLast?_concat]
      simp only [List.dropLast_concat]
      rw [if_pos (spR_y f t s).symm, if_neg, rSp_sp]
      unfold spR
      simp only [not_or, Decidable.not_not, Int.not_le]
      exact ⟨by omega, hl.1⟩
    rw [hst, Option.bind_some, band_in w (v ++ [s]) L f t lo (by simp) (by simpa using h) fun x hx => hc x (by simp [hx])]
    simp
theorem band_on {L : List Bd} {b : Bd} {lo lo' : Int} (h : Srt lo (L ++ [b])) (hn : b.v ≠ []) (ho : Ok lo' b.v) (hc : ∀ r ∈ bdR b, rChk r = true) : bandAll L (bdR b) = some (L ++ [b]) := by
  obtain ⟨f, t, v⟩ := b
  cases v with
  | nil => exact absurd rfl hn
  | cons s w =>
    have h' := (srt_snoc _ _ _).1 h
    have hcs : rChk (spR f t s) = true := hc _ (by simp [bdR])
    simp only at ho h'
    rw [bdR, List.map_cons, bandAll]
    have e1 : rBd (spR f t s) = ⟨f, t, [s]⟩ := by
      unfold rBd
      rw [rSp_sp]
      have e : f + (t - f) = t := by omega
      unfold spR
      simp only [e]
    have hst : bandStep L (spR f t s) = some (L ++ [⟨f, t, [s]⟩]) := by
      unfold bandStep
      rw [if_pos hcs]
      rcases List.eq_nil_or_concat L with rfl | ⟨M, c, rfl⟩
      · simp [e1]
      · simp only [List.concat_eq_append] at *
        have h2 := (srt_snoc _ _ _).1 h'.1
        rw [hi_snoc] at h'
        rw [List.getLast?_concat]
        have ey := spR_y f t s
        show (if c.f = (spR f t s).y then _ else if (spR f t s).y < c.t then _ else _) = _
        rw [if_neg (by omega), if_neg (by omega), e1]
    rw [hst, Option.bind_some]
    exact band_in w [s] L f t lo' (by simp) (by simpa using ho) fun x hx => hc _ (by simp [bdR]; exact .inr ⟨x, hx, rfl⟩)
theorem band_app : ∀ {l m : List R} {out : List Bd}, bandAll out (l ++ m) = (bandAll out l).bind fun o => bandAll o m
  | [], m, out => rfl
  | r :: l, m, out => by
    rw [List.cons_append, bandAll, bandAll, Option.bind_assoc]
    cases bandStep out r with
    | none => rfl
    | some o => exact band_app
theorem srt_app {α : Type} {l m : List (Seg α)} : ∀ {lo : Int}, Srt lo (l ++ m) → Srt lo l ∧ Srt (hi lo l) m := by
  induction l with
  | nil => exact fun h => ⟨trivial, h⟩
  | cons a r ih => intro lo h; exact ⟨⟨h.1, h.2.1, (ih h.2.2).1⟩, (ih h.2.2).2⟩
theorem bands_flat : ∀ (B L : List Bd) (lo : Int), Srt lo (L ++ B) → (∀ b ∈ B, b.v ≠ [] ∧ ∃ lo, Ok lo b.v) → (∀ r ∈ flat B, rChk r = true) → bandAll L (flat B) = some (L ++ B)
  | [], L, lo, _, _, _ => by simp [flat, bandAll]
  | b :: B, L, lo, h, hv, hc => by
    obtain ⟨hn, l1, ho⟩ := hv b (by simp)
    rw [show L ++ b :: B = (L ++ [b]) ++ B by simp] at h ⊢
    rw [flat_cons, band_app, band_on (srt_app h).1 hn ho fun r hr => hc r (by rw [flat_cons]; simp [hr])]
    exact bands_flat B (L ++ [b]) lo h (fun x hx => hv x (by simp [hx])) fun r hr => hc r (by rw [flat_cons]; simp [hr])
theorem bands_complete {B : List Bd} (h : Canon B) (hc : ∀ r ∈ flat B, rChk r = true) : bandsF (flat B) = some B := by
  obtain ⟨⟨lo, ho⟩, hv⟩ := h
  unfold bandsF
  rw [bands_flat B [] lo ho.srt hv hc]
  simp [adj_of_ok ho]
theorem bands_reg {l : List R} {B : List Bd} (e : bandsF l = some B) : IsReg l fun p q => hasL l p q = true := by
  obtain ⟨h1, h2, _⟩ := bands_sound e
  refine ⟨B, h1, h2, fun p q => ?_⟩
  show _ ↔ hasL l p q = true
  rw [hasL_iff, h2, has_flat (h1.inv.1.choose_spec) fun b hb => (h1.2 b hb).2.imp fun _ h => h.srt]
/-- Whether a list is a region. -/
theorem bands_iff {l : List R} : (bandsF l).isSome = true ↔ (∀ r ∈ l, chkR r) ∧ ∃ S, IsReg l S := by
  constructor
  · intro h
    obtain ⟨B, hB⟩ := Option.isSome_iff_exists.1 h
    exact ⟨fun r hr => chk_iff.1 ((bands_sound hB).2.2 r hr), _, bands_reg hB⟩
  · rintro ⟨hc, S, B, h1, rfl, _⟩
    rw [bands_complete h1 fun r hr => chk_iff.2 (hc r hr)]; rfl

/-! two of them -/
def rowB (B : List Bd) (q : Int) : List Sp := (look B q).getD []
def spIn (v : List Sp) (p : Int) : Bool := (look v p).isSome
def bothF (op : Bool → Bool → Bool) (a b : List Sp) : List Sp := mrg (cut (fun x => if op (spIn a x) (spIn b x) then some () else none) (esort (ends a ++ ends b)))
def rectsF (B : List Bd) : List R := flat (mrg (B.filter fun b => !b.v.isEmpty))
def joinB (op : Bool → Bool → Bool) (x y : List Bd) : List Bd := (gaps (esort (ends x ++ ends y))).map fun p => ⟨p.1, p.2, bothF op (rowB x p.1) (rowB y p.1)⟩
def joinF (op : Bool → Bool → Bool) (a b : List R) : List R :=
  match bandsF a, bandsF b with
  | some x, some y => rectsF (joinB op x y)
  | _, _ => []

theorem filter_cut (G : Int → List Sp) (es : List Int) : ((gaps es).map fun p => (⟨p.1, p.2, G p.1⟩ : Bd)).filter (fun b => !b.v.isEmpty) = cut (fun q => if G q = [] then none else some (G q)) es := by
  unfold cut
  induction gaps es with
  | nil => rfl
  | cons p r ih =>
    rw [List.map_cons, List.filterMap_cons, List.filter_cons, ih]
    by_cases h : G p.1 = []
    · simp only [h, if_true, Option.map_none]; rfl
    · have h' : (G p.1).isEmpty = false := by simpa using h
      simp only [h, if_false, Option.map_some, h']; rfl
theorem look_beyond {α : Type} {l : List (Seg α)} {es : List Int} (hm : ∀ e ∈ ends l, e ∈ es) {y : Int} (h : (∀ e ∈ es, e ≤ y) ∨ (∀ e ∈ es, y < e)) : look l y = none := by
  refine look_none fun s hs hc => ?_
  rcases h with h | h
  · have := h _ (hm _ (mem_ends.2 ⟨s, hs, .inr rfl⟩)); omega
  · have := h _ (hm _ (mem_ends.2 ⟨s, hs, .inl rfl⟩)); omega
theorem both_spec (op : Bool → Bool → Bool) (h0 : op false false = false) (a b : List Sp) : (∃ lo, Ok lo (bothF op a b)) ∧ ∀ p, look (bothF op a b) p = some () ↔ op (spIn a p) (spIn b p) = true := by
  have hm : ∀ e, e ∈ esort (ends a ++ ends b) ↔ e ∈ ends a ∨ e ∈ ends b := fun e => by rw [mem_esort, List.mem_append]
  obtain ⟨_, h2, h3⟩ := cut_any (fun x => if op (spIn a x) (spIn b x) then some () else none) (inc_esort (ends a ++ ends b))
    (fun p hp y h1 h2 => by
      unfold spIn
      rw [look_step (l := a) (inc_esort _) (fun e he => (hm e).2 (.inl he)) hp h1 h2, look_step (l := b) (inc_esort _) (fun e he => (hm e).2 (.inr he)) hp h1 h2])
    (fun y h => by
      unfold spIn
      rw [look_beyond (l := a) (fun e he => (hm e).2 (.inl he)) h, look_beyond (l := b) (fun e he => (hm e).2 (.inr he)) h]
      simp [h0])
  refine ⟨h2, fun p => ?_⟩
  rw [bothF, h3]
  by_cases hc : op (spIn a p) (spIn b p) = true <;> simp [hc]
theorem spIn_has {B : List Bd} (h : Canon B) (p q : Int) : spIn (rowB B q) p = hasL (flat B) p q := by
  rw [Bool.eq_iff_iff, hasL_iff, has_flat (h.inv.1.choose_spec) fun b hb => (h.2 b hb).2.imp fun _ h => h.srt]
  unfold spIn rowB inB
  cases look B q with
  | none => simp [look]
  | some v => simp only [Option.getD_some, Option.some.injEq, exists_eq_left']; cases look v p <;> simp
theorem join_spec {op : Bool → Bool → Bool} (h0 : op false false = false) {a b : List R} {x y : List Bd} (ha : bandsF a = some x) (hb : bandsF b = some y) :
    IsReg (joinF op a b) fun p q => op (hasL a p q) (hasL b p q) = true := by
  obtain ⟨cx, ex, _⟩ := bands_sound ha
  obtain ⟨cy, ey, _⟩ := bands_sound hb
  have hm : ∀ e, e ∈ esort (ends x ++ ends y) ↔ e ∈ ends x ∨ e ∈ ends y := fun e => by rw [mem_esort, List.mem_append]
  have e : joinF op a b = flat (mrg (cut (fun q => if bothF op (rowB x q) (rowB y q) = [] then none else some (bothF op (rowB x q) (rowB y q))) (esort (ends x ++ ends y)))) := by
    rw [joinF, ha, hb]
    simp only [rectsF, joinB]
    rw [filter_cut fun q => bothF op (rowB x q) (rowB y q)]
  rw [e]
  have hS : ∀ p q, hasL a p q = spIn (rowB x q) p ∧ hasL b p q = spIn (rowB y q) p := fun p q => by
    rw [spIn_has cx, spIn_has cy, ← ex, ← ey]; exact ⟨rfl, rfl⟩
  refine reg_of _ (inc_esort _) (fun q => ?_) ?_ ?_
  · obtain ⟨h1, h2⟩ := both_spec op h0 (rowB x q) (rowB y q)
    exact ⟨h1, fun p => by rw [h2, (hS p q).1, (hS p q).2]⟩
  · intro c hc q h1 h2 p
    rw [(hS p q).1, (hS p q).2, (hS p c.1).1, (hS p c.1).2]
    unfold rowB
    rw [look_step (l := x) (inc_esort _) (fun e he => (hm e).2 (.inl he)) hc h1 h2, look_step (l := y) (inc_esort _) (fun e he => (hm e).2 (.inr he)) hc h1 h2]
  · intro q h p
    rw [(hS p q).1, (hS p q).2]
    unfold rowB
    rw [look_beyond (l := x) (fun e he => (hm e).2 (.inl he)) h, look_beyond (l := y) (fun e he => (hm e).2 (.inr he)) h]
    simp [spIn, look, h0]
end Go.Proofs.YtjjdgbhplechbaaGreatDoor.Reg
/- Plain laws on regions: the reference's way, the moved region, the joined laws. No program. -/
namespace Go.Proofs.YtjjdgbhplechbaaGreatDoor.Reg
open Go.Proofs.YtjjdgbhplechbaaGreatDoor.Rect

/-! the reference -/
def xsF (l : List R) : List Int := esort (l.flatMap fun r => [r.x, r.x + r.w])
def ysF (l : List R) : List Int := esort (l.flatMap fun r => [r.y, r.y + r.h])
def rowSp (op : Bool → Bool → Bool) (a b : List R) (xs : List Int) (y : Int) : List Sp := mrg (cut (fun x => if op (hasL a x y) (hasL b x y) then some () else none) xs)
def alikeF (a b : List R) : Bool :=
  a.length == b.length && (match a, b with | x :: _, y :: _ => x.y + x.h == y.y | _, _ => false) && (a.zip b).all fun p => p.1.x == p.2.x && p.1.w == p.2.w
def growR (d : Int) (l : List R) : List R := l.map fun r => ⟨r.x, r.y, r.w, r.h + d⟩
def mkStep (st : List R × List R) (r : List R) (y y1 : Int) : List R × List R :=
  if alikeF st.2 r then (st.1, growR (y1 - y) st.2) else (st.1 ++ st.2, r)
def mkAll (G : Int → List Sp) (es : List (Int × Int)) (st : List R × List R) : List R × List R := es.foldl (fun st p => mkStep st ((G p.1).map (spR p.1 p.2)) p.1 p.2) st
def makeR (op : Bool → Bool → Bool) (a b : List R) : List R :=
  let st := mkAll (rowSp op a b (xsF (a ++ b))) (gaps (ysF (a ++ b))) ([], [])
  st.1 ++ st.2

theorem zip_alike (f t f' t' : Int) : ∀ {v v' : List Sp}, v.length = v'.length → ((v.map (spR f t)).zip (v'.map (spR f' t'))).all (fun p => p.1.x == p.2.x && p.1.w == p.2.w) = decide (v = v')
  | [], [], _ => rfl
  | s :: v, s' :: v', h => by
    simp only [List.map_cons, List.zip_cons_cons, List.all_cons]
    rw [zip_alike f t f' t' (by simpa using h), Bool.eq_iff_iff]
    obtain ⟨a, b, u⟩ := s
    obtain ⟨a', b', u'⟩ := s'
    simp only [spR, Bool.and_eq_true, beq_iff_eq, decide_eq_true_eq, List.cons.injEq, Seg.mk.injEq]
    constructor
    · rintro ⟨⟨h1, h2⟩, h3⟩; exact ⟨⟨h1, by omega, trivial⟩, h3⟩
    · rintro ⟨⟨h1, h2, _⟩, h3⟩; exact ⟨⟨h1, by omega⟩, h3⟩
theorem alike_iff {f t f' t' : Int} {v v' : List Sp} (hn : v ≠ []) : alikeF (v.map (spR f t)) (v'.map (spR f' t')) = decide (t = f' ∧ v = v') := by
  unfold alikeF
  by_cases hl : v.length = v'.length
  · rw [zip_alike f t f' t' hl]
    cases v with
    | nil => exact absurd rfl hn
    | cons s v =>
      cases v' with
      | nil => cases hl
      | cons s' v' =>
        simp only [List.map_cons, spR]
        rw [Bool.eq_iff_iff]
        simp only [Bool.and_eq_true, beq_iff_eq, decide_eq_true_eq, List.length_cons, List.length_map]
        have : f + (t - f) = t := by omega
        rw [this]
        constructor
        · rintro ⟨⟨_, h2⟩, h3⟩; exact ⟨h2, h3⟩
        · rintro ⟨h2, h3⟩; exact ⟨⟨by simpa using hl, h2⟩, h3⟩
  · have : ¬ v = v' := fun e => hl (by rw [e])
    simp [hl, this]
theorem alike_nil_l (b : List R) : alikeF [] b = false := by unfold alikeF; simp
theorem alike_nil_r (a : List R) : alikeF a [] = false := by
  unfold alikeF
  cases a <;> simp
theorem growR_bd (b : Bd) (d : Int) : growR d (bdR b) = bdR ⟨b.f, b.t + d, b.v⟩ := by
  unfold growR bdR
  rw [List.map_map]
  refine List.map_congr_left fun s _ => ?_
  show R.mk _ _ _ _ = _
  have e : b.t - b.f + d = b.t + d - b.f := by omega
  simp only [spR, e]

theorem mk_fold (G : Int → List Sp) : ∀ (r : List Int) (a : Int) (out : List Bd) (st : List R × List R), Inc (a :: r) →
    (hi a out ≤ a) → (∀ b ∈ out, b.v ≠ []) → st.1 ++ st.2 = flat out →
    (st.2 = [] → ∀ b, out.getLast? = some b → b.t < a) → (st.2 ≠ [] → ∃ L b, out = L ++ [b] ∧ st.1 = flat L ∧ st.2 = bdR b) →
    (let s := mkAll G (gaps (a :: r)) st; s.1 ++ s.2) = flat ((cut (fun q => if G q = [] then none else some (G q)) (a :: r)).foldl push1 out)
  | [], a, out, st, _, _, _, hst, _, _ => hst
  | b :: r, a, out, st, hi', hlo, hv, hst, h1, h2 => by
    have hab := hi'.1
    have hm : mkAll G (gaps (a :: b :: r)) st = mkAll G (gaps (b :: r)) (mkStep st ((G a).map (spR a b)) a b) := rfl
    simp only [hm]
    have hlast : ∀ c, out.getLast? = some c → c.t ≤ a := by
      intro c hc
      rcases List.eq_nil_or_concat out with rfl | ⟨L, d, rfl⟩
      · cases hc
      · simp only [List.concat_eq_append, hi_snoc, List.getLast?_concat] at hlo hc
        obtain rfl := Option.some.inj hc
        exact hlo
    by_cases hg : G a = []
    · have e2 : cut (fun q => if G q = [] then none else some (G q)) (a :: b :: r) = cut (fun q => if G q = [] then none else some (G q)) (b :: r) := by
        unfold cut; rw [gaps, List.filterMap_cons]; simp only [hg, if_true, Option.map_none]
      have e3 : mkStep st ((G a).map (spR a b)) a b = (st.1 ++ st.2, []) := by
        unfold mkStep; rw [hg, List.map_nil, alike_nil_r]; rfl
      rw [e2, e3]
      refine mk_fold G r b out (st.1 ++ st.2, []) hi'.2 ?_ hv (by simpa using hst) (fun _ c hc => by have := hlast c hc; omega) (by simp)
      rcases List.eq_nil_or_concat out with rfl | ⟨L, d, rfl⟩
      · exact Int.le_refl _
      · simp only [List.concat_eq_append, hi_snoc] at hlo ⊢; omega
    · have e2 : cut (fun q => if G q = [] then none else some (G q)) (a :: b :: r) = ⟨a, b, G a⟩ :: cut (fun q => if G q = [] then none else some (G q)) (b :: r) := by
        unfold cut; rw [gaps, List.filterMap_cons]; simp only [hg, if_false, Option.map_some]
      rw [e2, List.foldl_cons]
      have hgn : (G a).map (spR a b) ≠ [] := by simpa using hg
      by_cases hs : st.2 = []
      · have e3 : mkStep st ((G a).map (spR a b)) a b = (st.1 ++ st.2, (G a).map (spR a b)) := by
          unfold mkStep; rw [hs, alike_nil_l]; rfl
        have e4 : push1 out (⟨a, b, G a⟩ : Bd) = out ++ [⟨a, b, G a⟩] := by
          unfold push1
          split
          · rename_i c hc
            have := h1 hs c hc
            rw [if_neg (by simp only; omega)]
          · rfl
        rw [e3, e4]
        refine mk_fold G r b _ _ hi'.2 (by rw [hi_snoc]; exact Int.le_refl _) (fun c hc => ?_) (by rw [flat_snoc, ← hst]; rfl) (fun h => absurd h hgn) fun _ => ⟨out, ⟨a, b, G a⟩, rfl, hst, rfl⟩
        rcases List.mem_append.1 hc with hc | hc
        · exact hv c hc
        · obtain rfl : c = _ := by simpa using hc
          exact hg
      · obtain ⟨L, c, rfl, hL, hc⟩ := h2 hs
        have hcv : c.v ≠ [] := hv c (by simp)
        have e0 : alikeF st.2 ((G a).map (spR a b)) = decide (c.t = a ∧ c.v = G a) := by rw [hc]; exact alike_iff hcv
        by_cases hm2 : c.t = a ∧ c.v = G a
        · have e3 : mkStep st ((G a).map (spR a b)) a b = (st.1, growR (b - a) st.2) := by
            unfold mkStep; rw [e0, if_pos (by simpa using hm2)]
          have e4 : push1 (L ++ [c]) (⟨a, b, G a⟩ : Bd) = L ++ [⟨c.f, b, c.v⟩] := by
            unfold push1
            rw [List.getLast?_concat]
            simp only [List.dropLast_concat]
            rw [if_pos hm2]
          have e5 : growR (b - a) st.2 = bdR ⟨c.f, b, c.v⟩ := by
            rw [hc, growR_bd]
            have : c.t + (b - a) = b := by omega
            rw [this]
          rw [e3, e4, e5]
          have hbn : bdR ⟨c.f, b, c.v⟩ ≠ [] := by unfold bdR; simpa using hcv
          refine mk_fold G r b _ _ hi'.2 (by rw [hi_snoc]; exact Int.le_refl _) (fun d hd => ?_) (by rw [flat_snoc, ← hL]) (fun h => absurd h hbn) fun _ => ⟨L, ⟨c.f, b, c.v⟩, rfl, hL, rfl⟩
          rcases List.mem_append.1 hd with hd | hd
          · exact hv d (by simp [hd])
          · obtain rfl : d = _ := by simpa using hd
            exact hcv
        · have e3 : mkStep st ((G a).map (spR a b)) a b = (st.1 ++ st.2, (G a).map (spR a b)) := by
            unfold mkStep; rw [e0, if_neg (by simpa using hm2)]
          have e4 : push1 (L ++ [c]) (⟨a, b, G a⟩ : Bd) = L ++ [c] ++ [⟨a, b, G a⟩] := by
            unfold push1
            rw [List.getLast?_concat]
            simp only
            rw [if_neg hm2]
          rw [e3, e4]
          refine mk_fold G r b _ _ hi'.2 (by rw [hi_snoc]; exact Int.le_refl _) (fun d hd => ?_) (by rw [flat_snoc (L ++ [c]), ← hst]; rfl) (fun h => absurd h hgn) fun _ => ⟨L ++ [c], ⟨a, b, G a⟩, rfl, hst, rfl⟩
          rcases List.mem_append.1 hd with hd | hd
          · exact hv d hd
          · obtain rfl : d = _ := by simpa using hd
            exact hg

theorem mem_xs {l : List R} {e : Int} : e ∈ xsF l ↔ ∃ r ∈ l, e = r.x ∨ e = r.x + r.w := by unfold xsF; rw [mem_esort]; simp
theorem mem_ys {l : List R} {e : Int} : e ∈ ysF l ↔ ∃ r ∈ l, e = r.y ∨ e = r.y + r.h := by unfold ysF; rw [mem_esort]; simp
theorem has_congr {l : List R} {p p' q q' : Int} (h : ∀ r ∈ l, (inR r p q ↔ inR r p' q')) : hasL l p q = hasL l p' q' := by
  rw [Bool.eq_iff_iff, hasL_iff, hasL_iff]
  exact ⟨fun ⟨r, hr, h1⟩ => ⟨r, hr, (h r hr).1 h1⟩, fun ⟨r, hr, h1⟩ => ⟨r, hr, (h r hr).2 h1⟩⟩
theorem has_none {l : List R} {p q : Int} (h : ∀ r ∈ l, ¬ inR r p q) : hasL l p q = false := by
  rw [Bool.eq_false_iff, Ne, hasL_iff]
  exact fun ⟨r, hr, h1⟩ => h r hr h1
theorem has_x {l m : List R} (hlm : ∀ r ∈ l, r ∈ m) {c : Int × Int} (hc : c ∈ gaps (xsF m)) {p q : Int} (h1 : c.1 ≤ p) (h2 : p < c.2) : hasL l p q = hasL l c.1 q := by
  obtain ⟨_, _, h3, h4⟩ := gaps_mem (inc_esort _) hc
  refine has_congr fun r hr => ?_
  have a := h4 r.x (mem_xs.2 ⟨r, hlm r hr, .inl rfl⟩)
  have b := h4 (r.x + r.w) (mem_xs.2 ⟨r, hlm r hr, .inr rfl⟩)
  unfold inR; omega
theorem has_y {l m : List R} (hlm : ∀ r ∈ l, r ∈ m) {c : Int × Int} (hc : c ∈ gaps (ysF m)) {p q : Int} (h1 : c.1 ≤ q) (h2 : q < c.2) : hasL l p q = hasL l p c.1 := by
  obtain ⟨_, _, h3, h4⟩ := gaps_mem (inc_esort _) hc
  refine has_congr fun r hr => ?_
  have a := h4 r.y (mem_ys.2 ⟨r, hlm r hr, .inl rfl⟩)
  have b := h4 (r.y + r.h) (mem_ys.2 ⟨r, hlm r hr, .inr rfl⟩)
  unfold inR; omega
theorem has_xo {l m : List R} (hlm : ∀ r ∈ l, r ∈ m) {p q : Int} (h : (∀ e ∈ xsF m, e ≤ p) ∨ (∀ e ∈ xsF m, p < e)) : hasL l p q = false := by
  refine has_none fun r hr hi => ?_
  unfold inR at hi
  rcases h with h | h
  · have := h _ (mem_xs.2 ⟨r, hlm r hr, .inr rfl⟩); omega
  · have := h _ (mem_xs.2 ⟨r, hlm r hr, .inl rfl⟩); omega
theorem has_yo {l m : List R} (hlm : ∀ r ∈ l, r ∈ m) {p q : Int} (h : (∀ e ∈ ysF m, e ≤ q) ∨ (∀ e ∈ ysF m, q < e)) : hasL l p q = false := by
  refine has_none fun r hr hi => ?_
  unfold inR at hi
  rcases h with h | h
  · have := h _ (mem_ys.2 ⟨r, hlm r hr, .inr rfl⟩); omega
  · have := h _ (mem_ys.2 ⟨r, hlm r hr, .inl rfl⟩); omega
/-- **The reference's answer is the region of the points**, of any rectangles. -/
theorem make_spec {op : Bool → Bool → Bool} (h0 : op false false = false) (a b : List R) : IsReg (makeR op a b) fun p q => op (hasL a p q) (hasL b p q) = true := by
  have hla : ∀ r ∈ a, r ∈ a ++ b := fun r hr => List.mem_append_left _ hr
  have hlb : ∀ r ∈ b, r ∈ a ++ b := fun r hr => List.mem_append_right _ hr
  have e : makeR op a b = flat (mrg (cut (fun q => if rowSp op a b (xsF (a ++ b)) q = [] then none else some (rowSp op a b (xsF (a ++ b)) q)) (ysF (a ++ b)))) := by
    unfold makeR mrg
    have hinc : Inc (ysF (a ++ b)) := inc_esort _
    cases hy : ysF (a ++ b) with
    | nil => rfl
    | cons y r =>
      rw [hy] at hinc
      exact mk_fold _ r y [] ([], []) hinc (Int.le_refl _) (by simp) rfl (by simp) (by simp)
  rw [e]
  refine reg_of _ (inc_esort _) (fun q => ?_) ?_ ?_
  · obtain ⟨_, h2, h3⟩ := cut_any (fun x => if op (hasL a x q) (hasL b x q) then some () else none) (inc_esort ((a ++ b).flatMap fun r => [r.x, r.x + r.w]))
      (fun c hc y h1 h2 => by rw [has_x hla hc h1 h2, has_x hlb hc h1 h2])
      (fun y h => by rw [has_xo hla h, has_xo hlb h]; simp [h0])
    refine ⟨h2, fun p => ?_⟩
    rw [rowSp, xsF, h3]
    by_cases hc : op (hasL a p q) (hasL b p q) = true <;> simp [hc]
  · intro c hc q h1 h2 p
    rw [has_y hla hc h1 h2, has_y hlb hc h1 h2]
  · intro q h p
    rw [has_yo hla h, has_yo hlb h]; simp [h0]

def orB : Bool → Bool → Bool := fun a b => a || b
def subB : Bool → Bool → Bool := fun a b => a && !b
def andB : Bool → Bool → Bool := fun a b => a && b
theorem hasL_nil (p q : Int) : hasL [] p q = false := rfl
def chkF (l : List R) : Bool := l.all rChk && decide (l = makeR orB l [])
theorem chk_bands (l : List R) : chkF l = (bandsF l).isSome := by
  rw [Bool.eq_iff_iff, bands_iff, chkF, Bool.and_eq_true, List.all_eq_true, decide_eq_true_eq]
  have hm := make_spec (op := orB) rfl l []
  constructor
  · rintro ⟨h1, h2⟩
    have hm' := hm
    rw [← h2] at hm'
    exact ⟨fun r hr => chk_iff.1 (h1 r hr), _, hm'⟩
  · rintro ⟨h1, S, h2⟩
    refine ⟨fun r hr => chk_iff.2 (h1 r hr), h2.unique hm fun p q => ?_⟩
    rw [← h2.has]
    simp [orB, hasL_nil]
def makeF (op : Bool → Bool → Bool) (a b : List R) : List R := if chkF a && chkF b then makeR op a b else []
/-- **Both ways are the same.** -/
theorem join_make {op : Bool → Bool → Bool} (h0 : op false false = false) (a b : List R) : joinF op a b = makeF op a b := by
  unfold makeF
  cases ha : bandsF a with
  | none => rw [chk_bands, ha]; simp [joinF, ha]
  | some x =>
    cases hb : bandsF b with
    | none => rw [chk_bands, chk_bands, ha, hb]; simp [joinF, ha, hb]
    | some y =>
      rw [chk_bands, chk_bands, ha, hb]
      exact (join_spec h0 ha hb).unique (make_spec h0 a b) fun p q => Iff.rfl
/-- A region: it is one, within the field. -/
def Rg (l : List R) : Prop := (bandsF l).isSome = true
theorem Rg.chk {l : List R} (h : Rg l) : ∀ r ∈ l, chkR r := (bands_iff.1 h).1
theorem Rg.reg {l : List R} (h : Rg l) : IsReg l fun p q => hasL l p q = true := by
  obtain ⟨B, hB⟩ := Option.isSome_iff_exists.1 h
  exact bands_reg hB
theorem Rg.fld {l : List R} (h : Rg l) {p q : Int} (hp : hasL l p q = true) : fld p q := by
  obtain ⟨r, hr, hi⟩ := hasL_iff.1 hp
  have := h.chk r hr
  unfold chkR at this
  unfold inR at hi
  unfold Reg.fld; omega
theorem Rg.of {l : List R} {S : Int → Int → Prop} (h : IsReg l S) (hf : ∀ p q, S p q → Reg.fld p q) : Rg l := bands_iff.2 ⟨h.chk hf, S, h⟩
theorem Rg.nil : Rg [] := rfl
theorem rg_join {op : Bool → Bool → Bool} (h0 : op false false = false) (a b : List R) : Rg (joinF op a b) := by
  cases ha : bandsF a with
  | none => rw [joinF, ha]; exact Rg.nil
  | some x =>
    cases hb : bandsF b with
    | none => rw [joinF, ha, hb]; exact Rg.nil
    | some y =>
      refine Rg.of (join_spec h0 ha hb) fun p q h => ?_
      have ra : Rg a := by unfold Rg; rw [ha]; rfl
      have rb : Rg b := by unfold Rg; rw [hb]; rfl
      cases h1 : hasL a p q with
      | true => exact ra.fld h1
      | false =>
        cases h2 : hasL b p q with
        | true => exact rb.fld h2
        | false => rw [h1, h2, h0] at h; cases h
theorem has_join {op : Bool → Bool → Bool} (h0 : op false false = false) {a b : List R} (ra : Rg a) (rb : Rg b) (p q : Int) : hasL (joinF op a b) p q = op (hasL a p q) (hasL b p q) := by
  obtain ⟨x, ha⟩ := Option.isSome_iff_exists.1 ra
  obtain ⟨y, hb⟩ := Option.isSome_iff_exists.1 rb
  rw [Bool.eq_iff_iff]
  exact (join_spec h0 ha hb).has
/-- Regions with the same points are the same. -/
theorem Rg.ext {a b : List R} (ra : Rg a) (rb : Rg b) (h : ∀ p q, hasL a p q = hasL b p q) : a = b :=
  ra.reg.unique rb.reg fun p q => by rw [h]
end Go.Proofs.YtjjdgbhplechbaaGreatDoor.Reg
/- Plain laws on regions: moved, counted. No program. -/
namespace Go.Proofs.YtjjdgbhplechbaaGreatDoor.Reg
open Go.Proofs.YtjjdgbhplechbaaGreatDoor.Rect

/-! moved -/
def grpStep (out : List Bd) (r : R) : List Bd :=
  match out.getLast? with
  | some b => if b.f = r.y then out.dropLast ++ [⟨b.f, b.t, b.v ++ [rSp r]⟩] else out ++ [rBd r]
  | none => out ++ [rBd r]
def mov (x y : Int) (r : R) : R := rBound (rShift r x y)
def movF (l : List R) (x y : Int) : List R := (l.map (mov x y)).filter fun r => !emp r
def farB (n : Int) : Bool := decide (n < -16777216) || decide (16777216 < n)
def shiftF (l : List R) (x y : Int) : List R := if farB x || farB y || !(bandsF l).isSome then [] else rectsF ((movF l x y).foldl grpStep [])
def shiftR (l : List R) (x y : Int) : List R := if farB x || farB y || !chkF l then [] else makeR orB (movF l x y) []

instance (p q : Int) : Decidable (fld p q) := by unfold fld; infer_instance
theorem inR_mov {r : R} {x y p q : Int} : inR (mov x y r) p q ↔ inR r (p - x) (q - y) ∧ fld p q := by
  unfold mov fld; rw [inR_bound, inR_shift]
theorem has_mov (l : List R) (x y p q : Int) : hasL (movF l x y) p q = (hasL l (p - x) (q - y) && decide (fld p q)) := by
  rw [Bool.eq_iff_iff, hasL_iff, Bool.and_eq_true, hasL_iff, decide_eq_true_eq]
  unfold movF
  constructor
  · rintro ⟨r, hr, h⟩
    obtain ⟨h1, _⟩ := List.mem_filter.1 hr
    obtain ⟨r', hr', rfl⟩ := List.mem_map.1 h1
    exact ⟨⟨r', hr', (inR_mov.1 h).1⟩, (inR_mov.1 h).2⟩
  · rintro ⟨⟨r, hr, h⟩, hf⟩
    have hi := inR_mov.2 ⟨h, hf⟩
    refine ⟨_, List.mem_filter.2 ⟨List.mem_map.2 ⟨r, hr, rfl⟩, ?_⟩, hi⟩
    cases he : emp (mov x y r) with
    | false => rfl
    | true => exact absurd hi (inR_emp he)

def clipS (x : Int) (s : Sp) : Sp := ⟨max (s.f + x) (-16777216), min (s.t + x) 16777216, ()⟩
def clipV (x : Int) (v : List Sp) : List Sp := (v.map (clipS x)).filter fun s => decide (s.f < s.t)
def clipB (x y : Int) (b : Bd) : Bd := ⟨max (b.f + y) (-16777216), min (b.t + y) 16777216, clipV x b.v⟩
theorem mov_sp {x y f t : Int} {s : Sp} (h1 : f < t) (h2 : s.f < s.t) :
    mov x y (spR f t s) = if (clipS x s).f < (clipS x s).t ∧ max (f + y) (-16777216) < min (t + y) 16777216 then spR (max (f + y) (-16777216)) (min (t + y) 16777216) (clipS x s) else zR := by
  have e1 : emp (spR f t s) = false := by rw [emp_f]; unfold spR; simp only; omega
  have e2 : rShift (spR f t s) x y = ⟨s.f + x, f + y, s.t - s.f, t - f⟩ := by unfold rShift; rw [if_neg (by simp [e1])]; rfl
  have e3 : emp (⟨s.f + x, f + y, s.t - s.f, t - f⟩ : R) = false := by rw [emp_f]; simp only; omega
  unfold mov
  rw [e2, rBound, if_neg (by simp [e3])]
  have e4 : s.f + x + (s.t - s.f) = s.t + x := by omega
  have e5 : f + y + (t - f) = t + y := by omega
  simp only [e4, e5]
  by_cases h : (clipS x s).f < (clipS x s).t ∧ max (f + y) (-16777216) < min (t + y) 16777216
  · rw [if_pos h]
    unfold clipS at h
    simp only at h
    rw [rOf_mk (by omega)]
    rfl
  · rw [if_neg h]
    unfold clipS at h
    simp only at h
    rw [rOf_z (by omega)]
theorem emp_sp {f t : Int} {s : Sp} (h1 : f < t) (h2 : s.f < s.t) : emp (spR f t s) = false := by rw [emp_f]; unfold spR; simp only; omega
theorem movF_cons (r : R) (l : List R) (x y : Int) : movF (r :: l) x y = if emp (mov x y r) = true then movF l x y else mov x y r :: movF l x y := by
  unfold movF
  rw [List.map_cons, List.filter_cons]
  cases emp (mov x y r) <;> rfl
theorem clipV_cons (x : Int) (s : Sp) (v : List Sp) : clipV x (s :: v) = if (clipS x s).f < (clipS x s).t then clipS x s :: clipV x v else clipV x v := by
  unfold clipV
  rw [List.map_cons, List.filter_cons]
  by_cases h : (clipS x s).f < (clipS x s).t
  · rw [if_pos (by simpa using h), if_pos h]
  · rw [if_neg (by simpa using h), if_neg h]
theorem mov_items {x y f t : Int} (h : f < t) : ∀ v : List Sp, (∀ s ∈ v, s.f < s.t) →
    movF (v.map (spR f t)) x y = if max (f + y) (-16777216) < min (t + y) 16777216 then (clipV x v).map (spR (max (f + y) (-16777216)) (min (t + y) 16777216)) else []
  | [], _ => by simp [movF, clipV]
  | s :: v, hv => by
    have hm := mov_sp (x := x) (y := y) h (hv s (by simp))
    rw [List.map_cons, movF_cons, mov_items h v fun s hs => hv s (by simp [hs]), clipV_cons]
    by_cases h1 : max (f + y) (-16777216) < min (t + y) 16777216
    · by_cases h2 : (clipS x s).f < (clipS x s).t
      · rw [if_pos ⟨h2, h1⟩] at hm
        rw [hm, emp_sp h1 h2, if_pos h1, if_pos h1, if_pos h2]; rfl
      · rw [if_neg (fun h => h2 h.1)] at hm
        rw [hm, if_pos emp_z, if_neg h2]
    · rw [if_neg (fun h => h1 h.2)] at hm
      rw [hm, if_pos emp_z, if_neg h1, if_neg h1]
theorem mov_bd {x y : Int} {b : Bd} (h : b.f < b.t) (hv : ∀ s ∈ b.v, s.f < s.t) : movF (bdR b) x y = if (clipB x y b).f < (clipB x y b).t then bdR (clipB x y b) else [] :=
  mov_items h b.v hv
theorem movF_app (l m : List R) (x y : Int) : movF (l ++ m) x y = movF l x y ++ movF m x y := by simp [movF]
theorem okU {lo : Int} {s : Sp} {r : List Sp} : Ok lo (s :: r) ↔ lo ≤ s.f ∧ s.f < s.t ∧ Ok (s.t + 1) r := by
  constructor
  · rintro ⟨h1, h2, h3, h4⟩
    refine ⟨h1, h2, ?_⟩
    cases r with
    | nil => trivial
    | cons b q =>
      have : b.f ≠ s.t := fun e => h4 b rfl e rfl
      exact ⟨by have := h3.1; omega, h3.2⟩
  · rintro ⟨h1, h2, h3⟩
    refine ⟨h1, h2, h3.mono (by omega), fun b hb e => ?_⟩
    cases r with
    | nil => cases hb
    | cons c q =>
      obtain rfl : c = b := by simpa using hb
      have := h3.1; omega
theorem clipV_ok (x : Int) : ∀ {v : List Sp} {lo : Int}, Ok lo v → Ok (max (lo + x) (-16777216)) (clipV x v)
  | [], _, _ => trivial
  | s :: r, lo, h => by
    obtain ⟨h1, h2, h3⟩ := okU.1 h
    have ih := clipV_ok x h3
    unfold clipV at ih ⊢
    rw [List.map_cons, List.filter_cons]
    split
    · rename_i hc
      have hc : (clipS x s).f < (clipS x s).t := by simpa using hc
      refine okU.2 ⟨by unfold clipS; simp only; omega, hc, ih.mono ?_⟩
      unfold clipS at hc ⊢; simp only at hc ⊢; omega
    · exact ih.mono (by omega)
/-- the bands that are left -/
def clipL (x y : Int) (B : List Bd) : List Bd := (B.map (clipB x y)).filter fun b => decide (b.f < b.t) && !b.v.isEmpty
theorem clipL_srt (x y : Int) : ∀ {B : List Bd} {lo : Int}, Srt lo B → Srt (max (lo + y) (-16777216)) (clipL x y B)
  | [], _, _ => trivial
  | b :: B, lo, h => by
    have ih := clipL_srt x y h.2.2
    have h1 := h.1
    have h2 := h.2.1
    unfold clipL at ih ⊢
    rw [List.map_cons, List.filter_cons]
    split
    · rename_i hc
      rw [Bool.and_eq_true] at hc
      have hc : (clipB x y b).f < (clipB x y b).t := by simpa using hc.1
      refine ⟨by unfold clipB; simp only; omega, hc, ih.mono ?_⟩
      unfold clipB at hc ⊢; simp only at hc ⊢; omega
    · exact ih.mono (by omega)
theorem clipL_inv {x y : Int} {B : List Bd} (h : Inv B) : Inv (clipL x y B) := by
  obtain ⟨⟨lo, h1⟩, h2⟩ := h
  refine ⟨⟨_, clipL_srt x y h1⟩, fun b hb => ?_⟩
  obtain ⟨hb1, hb2⟩ := List.mem_filter.1 hb
  obtain ⟨c, hc, rfl⟩ := List.mem_map.1 hb1
  obtain ⟨_, l1, ho⟩ := h2 c hc
  rw [Bool.and_eq_true] at hb2
  exact ⟨by simpa using hb2.2, _, clipV_ok x ho⟩
theorem mov_flat {x y : Int} : ∀ {B : List Bd}, (∀ b ∈ B, b.f < b.t ∧ ∀ s ∈ b.v, s.f < s.t) → movF (flat B) x y = flat (clipL x y B)
  | [], _ => rfl
  | b :: B, h => by
    obtain ⟨h1, h2⟩ := h b (by simp)
    rw [flat_cons, movF_app, mov_bd h1 h2, mov_flat fun c hc => h c (by simp [hc])]
    unfold clipL
    rw [List.map_cons, List.filter_cons]
    by_cases hc : (clipB x y b).f < (clipB x y b).t
    · rw [if_pos hc]
      cases hv : (clipB x y b).v with
      | nil => simp [bdR, hv]
      | cons s r => rw [if_pos (by simp [hc]), flat_cons]
    · rw [if_neg hc, if_neg (by simp [hc])]; rfl
theorem grp_in (f t : Int) (L : List Bd) : ∀ (w v : List Sp), v ≠ [] → (w.map (spR f t)).foldl grpStep (L ++ [⟨f, t, v⟩]) = L ++ [⟨f, t, v ++ w⟩]
  | [], v, _ => by simp
  | s :: w, v, hn => by
    rw [List.map_cons, List.foldl_cons]
    have e : grpStep (L ++ [⟨f, t, v⟩]) (spR f t s) = L ++ [⟨f, t, v ++ [s]⟩] := by
      unfold grpStep
      rw [List.getLast?_concat]
      simp only [List.dropLast_concat]
      rw [if_pos (spR_y f t s).symm, rSp_sp]
    rw [e, grp_in f t L w (v ++ [s]) (by simp)]
    simp
theorem rBd_sp (f t : Int) (s : Sp) : rBd (spR f t s) = ⟨f, t, [s]⟩ := by
  unfold rBd
  rw [rSp_sp]
  have e : f + (t - f) = t := by omega
  unfold spR
  simp only [e]
theorem grp_flat : ∀ (B L : List Bd) (lo : Int), Srt lo (L ++ B) → (∀ b ∈ B, b.v ≠ []) → (flat B).foldl grpStep L = L ++ B
  | [], L, _, _, _ => by simp [flat]
  | b :: B, L, lo, h, hv => by
    rw [show L ++ b :: B = (L ++ [b]) ++ B by simp] at h ⊢
    have ih := grp_flat B (L ++ [b]) lo h fun c hc => hv c (by simp [hc])
    rw [flat_cons, List.foldl_append]
    have e : (bdR b).foldl grpStep L = L ++ [b] := by
      have hb := (srt_snoc _ _ _).1 (srt_app h).1
      have hn := hv b (by simp)
      obtain ⟨f, t, v⟩ := b
      cases v with
      | nil => exact absurd rfl hn
      | cons s w =>
        simp only at hb
        rw [bdR, List.map_cons, List.foldl_cons]
        have e1 : grpStep L (spR f t s) = L ++ [⟨f, t, [s]⟩] := by
          unfold grpStep
          rcases List.eq_nil_or_concat L with rfl | ⟨M, c, rfl⟩
          · simp [rBd_sp]
          · simp only [List.concat_eq_append] at *
            have h2 := (srt_snoc _ _ _).1 hb.1
            rw [hi_snoc] at hb
            rw [List.getLast?_concat]
            have ey := spR_y f t s
            show (if c.f = (spR f t s).y then _ else _) = _
            rw [if_neg (by omega), rBd_sp]
        simp only at e1 ⊢
        rw [e1]
        exact grp_in f t L w [s] (by simp)
    rw [e]; exact ih
/-- bands put together -/
theorem rects_reg {B : List Bd} (h : Inv B) : IsReg (rectsF B) fun p q => hasL (flat B) p q = true := by
  obtain ⟨⟨lo, hs⟩, hv⟩ := h
  have e : rectsF B = flat (mrg B) := by
    unfold rectsF
    rw [List.filter_eq_self.2 fun b hb => by simpa using (hv b hb).1]
  rw [e]
  refine ⟨mrg B, ⟨⟨lo, mrg_ok hs⟩, fun b hb => ?_⟩, rfl, fun p q => ?_⟩
  · have h1 := mem_look (mrg_ok hs).srt b hb (Int.le_refl _) (srt_mem (mrg_ok hs).srt b hb).2
    rw [mrg_look hs] at h1
    obtain ⟨c, hc, _, _, h2⟩ := look_mem h1
    rw [← h2]; exact hv c hc
  · show _ ↔ hasL (flat B) p q = true
    rw [hasL_iff, has_flat hs fun b hb => (hv b hb).2.imp fun _ h => h.srt]
    unfold inB
    simp only [mrg_look hs]
theorem inv_pos {B : List Bd} (h : Inv B) : ∀ b ∈ B, b.f < b.t ∧ ∀ s ∈ b.v, s.f < s.t := by
  obtain ⟨⟨lo, hs⟩, hv⟩ := h
  intro b hb
  obtain ⟨_, l1, ho⟩ := hv b hb
  exact ⟨(srt_mem hs b hb).2, fun s hs' => (srt_mem ho.srt s hs').2⟩
theorem shift_spec {l : List R} {x y : Int} (hx : farB x = false) (hy : farB y = false) (h : Rg l) : IsReg (shiftF l x y) fun p q => hasL l (p - x) (q - y) = true ∧ fld p q := by
  obtain ⟨B, hB⟩ := Option.isSome_iff_exists.1 h
  obtain ⟨c, e, _⟩ := bands_sound hB
  have hi := clipL_inv (x := x) (y := y) c.inv
  have e2 : shiftF l x y = rectsF (clipL x y B) := by
    unfold shiftF
    rw [hx, hy, hB, e, mov_flat (inv_pos c.inv), grp_flat (clipL x y B) [] _ hi.1.choose_spec fun b hb => (hi.2 b hb).1]
    rfl
  rw [e2]
  refine (rects_reg hi).congr fun p q => ?_
  rw [← mov_flat (inv_pos c.inv), ← e, has_mov, Bool.and_eq_true, decide_eq_true_eq]
theorem shift_eq (l : List R) (x y : Int) : shiftF l x y = shiftR l x y := by
  unfold shiftR
  rw [chk_bands]
  by_cases h : (farB x || farB y || !(bandsF l).isSome) = true
  · rw [if_pos h]; unfold shiftF; rw [if_pos h]
  · rw [if_neg h]
    simp only [Bool.or_eq_true, not_or, Bool.not_eq_true, Bool.not_eq_false'] at h
    obtain ⟨⟨h1, h2⟩, h3⟩ := h
    refine (shift_spec h1 h2 h3).unique (make_spec (op := orB) rfl _ _) fun p q => ?_
    rw [has_mov]; simp [orB, hasL_nil]
theorem rg_shift (l : List R) (x y : Int) : Rg (shiftF l x y) := by
  by_cases h : (farB x || farB y || !(bandsF l).isSome) = true
  · unfold shiftF; rw [if_pos h]; exact Rg.nil
  · simp only [Bool.or_eq_true, not_or, Bool.not_eq_true, Bool.not_eq_false'] at h
    obtain ⟨⟨h1, h2⟩, h3⟩ := h
    exact Rg.of (shift_spec h1 h2 h3) fun p q h => h.2

/-! counted -/
def sumI (g : Int → Int) (lo : Int) : Nat → Int
  | 0 => 0
  | n + 1 => sumI g lo n + g (lo + n)
theorem sumI_congr {g k : Int → Int} (h : ∀ i, g i = k i) (lo : Int) : ∀ n, sumI g lo n = sumI k lo n
  | 0 => rfl
  | n + 1 => by rw [sumI, sumI, sumI_congr h lo n, h]
theorem sumI_add (g k : Int → Int) (lo : Int) : ∀ n, sumI (fun i => g i + k i) lo n = sumI g lo n + sumI k lo n
  | 0 => rfl
  | n + 1 => by rw [sumI, sumI, sumI, sumI_add g k lo n]; omega
theorem sumI_zero (lo : Int) : ∀ n, sumI (fun _ => 0) lo n = 0
  | 0 => rfl
  | n + 1 => by rw [sumI, sumI_zero lo n]; rfl
theorem sumI_box (c a b lo : Int) (ha : lo ≤ a) (hb : a ≤ b) : ∀ n : Nat, sumI (fun i => if a ≤ i ∧ i < b then c else 0) lo n = c * (min b (lo + n) - min a (lo + n))
  | 0 => by
    rw [sumI, show min b (lo + (0 : Nat)) - min a (lo + (0 : Nat)) = 0 by omega, Int.mul_zero]
  | n + 1 => by
    rw [sumI, sumI_box c a b lo ha hb n]
    split
    · rw [show min b (lo + ((n + 1 : Nat) : Int)) - min a (lo + ((n + 1 : Nat) : Int)) = (min b (lo + n) - min a (lo + n)) + 1 by omega, Int.mul_add, Int.mul_one]
    · rw [show min b (lo + ((n + 1 : Nat) : Int)) - min a (lo + ((n + 1 : Nat) : Int)) = (min b (lo + n) - min a (lo + n)) by omega, Int.add_zero]
/-- how many points of a square field are in -/
def cnt (lo : Int) (n : Nat) (S : Int → Int → Bool) : Int := sumI (fun q => sumI (fun p => if S p q then 1 else 0) lo n) lo n
theorem cnt_congr {lo : Int} {n : Nat} {S T : Int → Int → Bool} (h : ∀ p q, S p q = T p q) : cnt lo n S = cnt lo n T :=
  sumI_congr (fun q => sumI_congr (fun p => by rw [h]) lo n) lo n
theorem cnt_or {lo : Int} {n : Nat} (S T : Int → Int → Bool) : cnt lo n (fun p q => S p q || T p q) + cnt lo n (fun p q => S p q && T p q) = cnt lo n S + cnt lo n T := by
  unfold cnt
  rw [← sumI_add, ← sumI_add]
  refine sumI_congr (fun q => ?_) lo n
  rw [← sumI_add, ← sumI_add]
  refine sumI_congr (fun p => ?_) lo n
  cases h1 : S p q <;> cases h2 : T p q <;> simp [h1, h2]
theorem cnt_none {lo : Int} {n : Nat} {S : Int → Int → Bool} (h : ∀ p q, S p q = false) : cnt lo n S = 0 := by
  rw [cnt_congr h]
  unfold cnt
  rw [sumI_congr (k := fun _ => 0) (fun q => by simp only [Bool.false_eq_true, if_false]; exact sumI_zero lo n)]
  exact sumI_zero lo n
theorem cnt_rect {lo : Int} {n : Nat} {r : R} (hw : 0 ≤ r.w) (hh : 0 ≤ r.h) (h1 : lo ≤ r.x) (h2 : r.x + r.w ≤ lo + n) (h3 : lo ≤ r.y) (h4 : r.y + r.h ≤ lo + n) : cnt lo n (rHas r) = r.w * r.h := by
  unfold cnt
  have e : ∀ q, sumI (fun p => if rHas r p q = true then 1 else 0) lo n = if r.y ≤ q ∧ q < r.y + r.h then r.w else 0 := by
    intro q
    by_cases hq : r.y ≤ q ∧ q < r.y + r.h
    · rw [if_pos hq, sumI_congr (k := fun p => if r.x ≤ p ∧ p < r.x + r.w then 1 else 0) (fun p => ?_), sumI_box 1 _ _ _ h1 (by omega)]
      · omega
      · have : rHas r p q = true ↔ r.x ≤ p ∧ p < r.x + r.w := by rw [has_iff]; unfold inR; omega
        by_cases hp : r.x ≤ p ∧ p < r.x + r.w
        · rw [if_pos (this.2 hp), if_pos hp]
        · rw [if_neg (fun h => hp (this.1 h)), if_neg hp]
    · rw [if_neg hq, sumI_congr (k := fun _ => 0) (fun p => ?_), sumI_zero]
      rw [if_neg]
      rw [has_iff]; unfold inR; omega
  rw [sumI_congr e, sumI_box _ _ _ _ h3 (by omega)]
  congr 1; omega
def area (l : List R) : Int := l.foldl (fun n r => n + r.w * r.h) 0
theorem area_acc : ∀ (l : List R) (n : Int), l.foldl (fun n r => n + r.w * r.h) n = n + area l
  | [], n => by simp [area]
  | r :: l, n => by
    unfold area
    rw [List.foldl_cons, List.foldl_cons, area_acc l, area_acc l (0 + r.w * r.h)]; omega
theorem area_cons (r : R) (l : List R) : area (r :: l) = r.w * r.h + area l := by
  unfold area; rw [List.foldl_cons, area_acc]; unfold area; omega
/-- Rectangles that share no point. -/
def Apt (l : List R) : Prop := l.Pairwise fun r s => ∀ p q, ¬ (inR r p q ∧ inR s p q)
theorem cnt_apt {lo : Int} {n : Nat} : ∀ {l : List R}, Apt l → (∀ r ∈ l, 0 ≤ r.w ∧ 0 ≤ r.h ∧ lo ≤ r.x ∧ r.x + r.w ≤ lo + n ∧ lo ≤ r.y ∧ r.y + r.h ≤ lo + n) → cnt lo n (hasL l) = area l
  | [], _, _ => cnt_none fun _ _ => rfl
  | r :: l, h, hc => by
    obtain ⟨h1, h2⟩ := List.pairwise_cons.1 h
    have ih := cnt_apt (lo := lo) (n := n) h2 fun s hs => hc s (by simp [hs])
    obtain ⟨a, b, c, d, e, f⟩ := hc r (by simp)
    rw [area_cons, ← ih, ← cnt_rect a b c d e f, ← cnt_or, cnt_none (S := fun p q => rHas r p q && hasL l p q), Int.add_zero]
    · exact cnt_congr fun p q => by simp [hasL]
    · intro p q
      rw [Bool.and_eq_false_iff]
      by_cases hr : rHas r p q = true
      · right
        exact has_none fun s hs hi => h1 s hs p q ⟨has_iff.1 hr, hi⟩
      · left; simpa using hr
theorem apt_flat : ∀ {B : List Bd} {lo : Int}, Srt lo B → (∀ b ∈ B, ∃ lo, Srt lo b.v) → Apt (flat B)
  | [], _, _, _ => by simp [Apt, flat]
  | b :: B, lo, h, hv => by
    rw [flat_cons]
    refine List.pairwise_append.2 ⟨?_, apt_flat h.2.2 fun c hc => hv c (by simp [hc]), fun r hr s hs p q hi => ?_⟩
    · obtain ⟨l1, h1⟩ := hv b (by simp)
      have : ∀ {v : List Sp} {lo : Int} (f t : Int), Srt lo v → (v.map (spR f t)).Pairwise fun r s => ∀ p q, ¬ (inR r p q ∧ inR s p q) := by
        intro v
        induction v with
        | nil => simp
        | cons s v ih =>
          intro lo f t hv
          rw [List.map_cons, List.pairwise_cons]
          refine ⟨fun r hr p q hi => ?_, ih f t hv.2.2⟩
          obtain ⟨u, hu, rfl⟩ := List.mem_map.1 hr
          have := srt_mem hv.2.2 u hu
          unfold inR spR at hi; simp only at hi; omega
      exact this b.f b.t h1
    · obtain ⟨u, _, rfl⟩ := List.mem_map.1 (show r ∈ b.v.map (spR b.f b.t) from hr)
      obtain ⟨c, hc, z, _, rfl⟩ := mem_flat.1 hs
      have := srt_mem h.2.2 c hc
      unfold inR spR at hi; simp only at hi; omega
/-- The numbers of a region's points. -/
theorem Rg.area {l : List R} (h : Rg l) : area l = cnt (-16777216) 33554432 (hasL l) := by
  obtain ⟨B, hB⟩ := Option.isSome_iff_exists.1 h
  obtain ⟨c, e, _⟩ := bands_sound hB
  have hap : Apt l := by rw [e]; exact apt_flat c.inv.1.choose_spec fun b hb => (c.2 b hb).2.imp fun _ h => h.srt
  refine (cnt_apt hap fun r hr => ?_).symm
  have := h.chk r hr
  unfold chkR at this
  omega
theorem area_join (a b : List R) (ra : Rg a) (rb : Rg b) :
    Reg.area (joinF orB a b) + Reg.area (joinF andB a b) = Reg.area a + Reg.area b ∧ Reg.area (joinF subB a b) + Reg.area (joinF andB a b) = Reg.area a := by
  rw [(rg_join (op := orB) rfl a b).area, (rg_join (op := andB) rfl a b).area, (rg_join (op := subB) rfl a b).area, ra.area, rb.area,
    cnt_congr (T := fun p q => hasL a p q || hasL b p q) (fun p q => has_join (op := orB) rfl ra rb p q), cnt_congr (T := fun p q => hasL a p q && hasL b p q) (fun p q => has_join (op := andB) rfl ra rb p q),
    cnt_congr (T := fun p q => hasL a p q && !hasL b p q) (fun p q => has_join (op := subB) rfl ra rb p q)]
  refine ⟨cnt_or _ _, ?_⟩
  rw [← cnt_or, cnt_none (S := fun p q => (hasL a p q && !hasL b p q) && (hasL a p q && hasL b p q)), Int.add_zero]
  · exact cnt_congr fun p q => by cases hasL a p q <;> cases hasL b p q <;> rfl
  · intro p q; cases hasL a p q <;> cases hasL b p q <;> rfl
end Go.Proofs.YtjjdgbhplechbaaGreatDoor.Reg
/- Plain laws on damage: rectangles put to a region one by one; how many come of a few. No program. -/
namespace Go.Proofs.YtjjdgbhplechbaaGreatDoor.Reg
open Go.Proofs.YtjjdgbhplechbaaGreatDoor.Rect

def ofF (r : R) : List R := if emp (rBound r) then [] else [rBound r]
def coverF (l : List R) : R := if (bandsF l).isSome then l.foldl rCover zR else zR
def putF (l : List R) (r : R) : List R := let m := joinF orB l (ofF r); if 40 < m.length then ofF (coverF m) else m
def flatF (l : List R) : List R := l.foldl putF []
def damAdd (l : List R) (r : R) : List R := putF (flatF l) r

theorem of_reg (r : R) : IsReg (ofF r) fun p q => inR r p q ∧ fld p q := by
  unfold ofF
  by_cases h : emp (rBound r) = true
  · rw [if_pos h]
    refine IsReg.nil.congr fun p q => ?_
    exact ⟨False.elim, fun hi => absurd (inR_bound.2 hi) (inR_emp h)⟩
  · rw [if_neg h]
    exact (IsReg.one (by simpa using h)).congr fun p q => inR_bound
theorem rg_of (r : R) : Rg (ofF r) := Rg.of (of_reg r) fun p q h => h.2
theorem has_of (r : R) (p q : Int) : hasL (ofF r) p q = (rHas r p q && decide (fld p q)) := by
  rw [Bool.eq_iff_iff, (of_reg r).has, Bool.and_eq_true, has_iff, decide_eq_true_eq]
theorem of_chk {r : R} (h : rChk r = true) : ofF r = [r] := by
  unfold ofF
  rw [bound_chk h, if_neg (by rw [chk_emp h]; simp)]
/-- the cover of a region that has a point lies in the field -/
theorem foldl_cover : ∀ (l : List R) (a : R), (∀ r ∈ l, chkR r) → (a = zR ∨ chkR a) → (l ≠ [] ∨ chkR a) → chkR (l.foldl rCover a) ∧ ∀ p q, (inR a p q ∨ ∃ r ∈ l, inR r p q) → inR (l.foldl rCover a) p q
  | [], a, _, _, hn => ⟨hn.resolve_left (by simp), fun p q h => h.elim id (by rintro ⟨_, h, _⟩; cases h)⟩
  | r :: l, a, hc, ha, _ => by
    have hr := hc r (by simp)
    have her : emp r = false := chk_emp (chk_iff.2 hr)
    have h1 : chkR (rCover a r) := by
      rcases ha with rfl | ha
      · rw [cover_z (.inr her)]; exact hr
      · rw [cover_ne (chk_emp (chk_iff.2 ha)) her]
        unfold chkR at ha hr ⊢
        simp only; omega
    obtain ⟨k1, k2⟩ := foldl_cover l (rCover a r) (fun x hx => hc x (by simp [hx])) (.inr h1) (.inr h1)
    refine ⟨k1, fun p q h => k2 p q ?_⟩
    rcases h with h | ⟨x, hx, h⟩
    · exact .inl (inR_cover_l (.inl h))
    · rcases List.mem_cons.1 hx with rfl | hx
      · exact .inl (inR_cover_l (.inr h))
      · exact .inr ⟨x, hx, h⟩
theorem cover_chk {l : List R} (h : Rg l) (hn : l ≠ []) : chkR (coverF l) ∧ ∀ p q, hasL l p q = true → inR (coverF l) p q := by
  have h' : (bandsF l).isSome = true := h
  unfold coverF
  rw [if_pos h']
  obtain ⟨h1, h2⟩ := foldl_cover l zR h.chk (.inl rfl) (.inl hn)
  exact ⟨h1, fun p q hp => h2 p q (.inr (hasL_iff.1 hp))⟩
theorem rg_put (l : List R) (r : R) : Rg (putF l r) := by
  unfold putF
  simp only
  split
  · exact rg_of _
  · exact rg_join rfl _ _
theorem len_of (r : R) : (ofF r).length ≤ 1 := by unfold ofF; split <;> simp
theorem len_put (l : List R) (r : R) : (putF l r).length ≤ 40 := by
  unfold putF
  simp only
  split
  · exact Nat.le_trans (len_of _) (by omega)
  · omega
/-- what is put is there, and what was there stays -/
theorem has_put {l : List R} (h : Rg l) {r : R} {p q : Int} (hp : hasL l p q = true ∨ (rHas r p q = true ∧ fld p q)) : hasL (putF l r) p q = true := by
  have hm : hasL (joinF orB l (ofF r)) p q = true := by
    rw [has_join rfl h (rg_of r), has_of]
    rcases hp with hp | ⟨h1, h2⟩
    · simp [orB, hp]
    · simp [orB, h1, h2]
  unfold putF
  simp only
  split
  · rename_i hlen
    have hn : joinF orB l (ofF r) ≠ [] := fun e => by rw [e] at hlen; simp at hlen
    obtain ⟨h1, h2⟩ := cover_chk (rg_join (op := orB) rfl l (ofF r)) hn
    rw [of_chk (chk_iff.2 h1)]
    exact hasL_iff.2 ⟨_, by simp, h2 p q hm⟩
  · exact hm
theorem rg_foldl : ∀ (l : List R) {a : List R}, Rg a → Rg (l.foldl putF a)
  | [], _, h => h
  | r :: l, a, _ => rg_foldl l (rg_put a r)
theorem rg_flat (l : List R) : Rg (flatF l) := rg_foldl l Rg.nil
theorem len_flat (l : List R) : (flatF l).length ≤ 40 := by
  rcases List.eq_nil_or_concat l with rfl | ⟨L, b, rfl⟩
  · simp [flatF]
  · rw [List.concat_eq_append, flatF, List.foldl_append]; exact len_put _ _
theorem has_foldl : ∀ (l : List R) {a : List R} {p q : Int}, Rg a → (hasL a p q = true ∨ (hasL l p q = true ∧ fld p q)) → hasL (l.foldl putF a) p q = true
  | [], a, p, q, _, h => by simpa [hasL] using h
  | r :: l, a, p, q, ha, h => by
    refine has_foldl l (rg_put a r) ?_
    rcases h with h | ⟨h, hf⟩
    · exact .inl (has_put ha (.inl h))
    · simp only [hasL, List.any_cons, Bool.or_eq_true] at h
      rcases h with h | h
      · exact .inl (has_put ha (.inr ⟨h, hf⟩))
      · exact .inr ⟨h, hf⟩
theorem has_flat_dam {l : List R} {p q : Int} (h : hasL l p q = true) (hf : fld p q) : hasL (flatF l) p q = true := has_foldl l Rg.nil (.inr ⟨h, hf⟩)

/-- where nothing is too many, what comes is the region of all -/
theorem put_few {l : List R} {r : R} (hl : (joinF orB l (ofF r)).length ≤ 40) : putF l r = joinF orB l (ofF r) := by
  unfold putF; simp only; rw [if_neg (by omega)]
/-- the points of rectangles, in the field -/
def inF (l : List R) (p q : Int) : Prop := hasL l p q = true ∧ fld p q
theorem foldl_few : ∀ (l : List R) (a done : List R), Rg a → (∀ p q, hasL a p q = true ↔ inF done p q) →
    (∀ (k : Nat) (m : List R), Rg m → (∀ p q, hasL m p q = true ↔ inF (done ++ l.take k) p q) → m.length ≤ 40) → ∀ p q, hasL (l.foldl putF a) p q = true ↔ inF (done ++ l) p q
  | [], a, done, _, h, _, p, q => by rw [List.append_nil]; exact h p q
  | r :: l, a, done, ha, h, hk, p, q => by
    have e : ∀ p q, hasL (joinF orB a (ofF r)) p q = true ↔ inF (done ++ [r]) p q := by
      intro p q
      rw [has_join rfl ha (rg_of r), has_of]
      unfold orB
      rw [Bool.or_eq_true, h, Bool.and_eq_true, decide_eq_true_eq]
      unfold inF
      simp only [hasL, List.any_append, List.any_cons, List.any_nil, Bool.or_false, Bool.or_eq_true]
      constructor
      · rintro (⟨h1, h2⟩ | ⟨h1, h2⟩)
        · exact ⟨.inl h1, h2⟩
        · exact ⟨.inr h1, h2⟩
      · rintro ⟨h1 | h1, h2⟩
        · exact .inl ⟨h1, h2⟩
        · exact .inr ⟨h1, h2⟩
    have e2 := put_few (hk 1 _ (rg_join (op := orB) rfl a (ofF r)) (by simpa using e))
    rw [List.foldl_cons, e2, foldl_few l _ (done ++ [r]) (rg_join rfl _ _) e (fun k m hm hp => hk (k + 1) m hm (by simpa using hp))]
    simp
/-- Rectangles that are one region, put one by one, are it. -/
theorem flat_append_le {B : List Bd} (h : Inv B) : (rectsF B).length ≤ (flat B).length := by
  unfold rectsF
  rw [List.filter_eq_self.2 fun b hb => by simpa using (h.2 b hb).1]
  unfold mrg
  have key : ∀ (l out : List Bd), (flat (l.foldl push1 out)).length ≤ (flat out).length + (flat l).length := by
    intro l
    induction l with
    | nil => intro out; simp [flat]
    | cons s l ih =>
      intro out
      rw [List.foldl_cons, flat_cons, List.length_append]
      refine Nat.le_trans (ih _) ?_
      have : (flat (push1 out s)).length ≤ (flat out).length + (bdR s).length := by
        unfold push1
        split
        · rename_i b hb
          split
          · rcases List.eq_nil_or_concat out with rfl | ⟨L, c, rfl⟩
            · cases hb
            · simp only [List.concat_eq_append, List.getLast?_concat, List.dropLast_concat] at hb ⊢
              obtain rfl := Option.some.inj hb
              rw [flat_snoc, flat_snoc]; simp [bdR]
          · rw [flat_snoc]; simp
        · rw [flat_snoc]; simp
      omega
  simpa [flat] using key B []
/-- a beginning of a region's rectangles is one of bands -/
theorem take_flat : ∀ {B : List Bd} {lo : Int} (n : Nat), Srt lo B → (∀ b ∈ B, b.v ≠ [] ∧ ∃ lo, Ok lo b.v) → ∃ C, (flat B).take n = flat C ∧ Srt lo C ∧ ∀ b ∈ C, b.v ≠ [] ∧ ∃ lo, Ok lo b.v
  | [], lo, n, _, _ => ⟨[], by simp [flat], trivial, by simp⟩
  | b :: B, lo, n, h, hv => by
    rw [flat_cons, List.take_append]
    by_cases hn : n < (bdR b).length
    · rw [show n - (bdR b).length = 0 by omega, List.take_zero, List.append_nil]
      rcases Nat.eq_zero_or_pos n with rfl | h0
      · exact ⟨[], by simp [flat], trivial, by simp⟩
      · obtain ⟨hn0, l1, ho⟩ := hv b (by simp)
        refine ⟨[⟨b.f, b.t, b.v.take n⟩], by simp [flat, bdR, List.map_take], ⟨h.1, h.2.1, trivial⟩, fun c hc => ?_⟩
        obtain rfl : c = _ := by simpa using hc
        refine ⟨fun e => ?_, l1, (ok_app (l := b.v.take n) (m := b.v.drop n) (by rw [List.take_append_drop]; exact ho)).1⟩
        have := congrArg List.length e
        have hb : 0 < b.v.length := List.length_pos_iff.2 hn0
        rw [List.length_take, List.length_nil] at this
        omega
    · obtain ⟨C, h1, h2, h3⟩ := take_flat (n - (bdR b).length) h.2.2 fun c hc => hv c (by simp [hc])
      refine ⟨b :: C, by rw [flat_cons, ← h1, List.take_of_length_le (by omega)], ⟨h.1, h.2.1, h2⟩, fun c hc => ?_⟩
      rcases List.mem_cons.1 hc with rfl | hc
      · exact hv c (by simp)
      · exact h3 c hc
theorem flat_self {l : List R} (h : Rg l) (hl : l.length ≤ 40) : flatF l = l := by
  refine (rg_flat l).ext h fun p q => ?_
  rw [Bool.eq_iff_iff, flatF, foldl_few l [] [] Rg.nil (by simp [inF, hasL]) (fun k m hm hp => ?_) p q, List.nil_append]
  · exact ⟨fun h => h.1, fun hp => ⟨hp, h.fld hp⟩⟩
  · obtain ⟨B, hB⟩ := Option.isSome_iff_exists.1 h
    obtain ⟨c, e, _⟩ := bands_sound hB
    obtain ⟨C, h1, h2, h3⟩ := take_flat k c.inv.1.choose_spec c.2
    have hC : Inv C := ⟨⟨_, h2⟩, h3⟩
    have e2 : m = rectsF C := hm.reg.unique (rects_reg hC) fun p q => by
      rw [hp, List.nil_append, e, h1]
      exact ⟨fun h => h.1, fun hh => ⟨hh, h.fld (hasL_iff.2 (by
        obtain ⟨r, hr, hi⟩ := hasL_iff.1 hh
        rw [← h1] at hr
        exact ⟨r, by rw [e]; exact List.mem_of_mem_take hr, hi⟩))⟩⟩
    rw [e2]
    refine Nat.le_trans (flat_append_le hC) ?_
    rw [← h1, ← e]
    exact Nat.le_trans (List.length_take_le' _ _) hl
theorem put_in {l : List R} (h : Rg l) (hl : l.length ≤ 40) {r : R} (hr : ∀ p q, inR r p q → fld p q → hasL l p q = true) : putF l r = l := by
  have e : joinF orB l (ofF r) = l := (rg_join (op := orB) rfl _ _).ext h fun p q => by
    rw [has_join rfl h (rg_of r), has_of, Bool.eq_iff_iff]
    unfold orB
    rw [Bool.or_eq_true, Bool.and_eq_true, has_iff, decide_eq_true_eq]
    exact ⟨fun hh => hh.elim id fun hh => hr p q hh.1 hh.2, .inl⟩
  rw [put_few (by rw [e]; exact hl), e]
end Go.Proofs.YtjjdgbhplechbaaGreatDoor.Reg
/- Plain laws: how many rectangles a region of five has; rectangles in a line. No program. -/
namespace Go.Proofs.YtjjdgbhplechbaaGreatDoor.Reg
open Go.Proofs.YtjjdgbhplechbaaGreatDoor.Rect

theorem len_sub : ∀ {l m : List Int}, l.Nodup → (∀ e ∈ l, e ∈ m) → l.length ≤ m.length
  | [], _, _, _ => Nat.zero_le _
  | a :: l, m, hn, h => by
    obtain ⟨h1, h2⟩ := List.nodup_cons.1 hn
    have := len_sub (l := l) (m := m.erase a) h2 fun e he => (List.mem_erase_of_ne (fun hh => h1 (by subst hh; exact he))).2 (h e (by simp [he]))
    have ha := h a (by simp)
    rw [List.length_erase_of_mem ha] at this
    have : 0 < m.length := List.length_pos_of_mem ha
    rw [List.length_cons]; omega
theorem inc_nodup : ∀ {l : List Int}, Inc l → l.Nodup
  | [], _ => List.nodup_nil
  | a :: r, h => List.nodup_cons.2 ⟨fun hm => by have := h.le a hm; omega, inc_nodup h.tail⟩
theorem ok_nodup {lo : Int} : ∀ {v : List Sp}, Ok lo v → (v.map (·.f)).Nodup
  | [], _ => List.nodup_nil
  | s :: r, h => by
    rw [List.map_cons, List.nodup_cons]
    refine ⟨fun hm => ?_, ok_nodup h.2.2.1⟩
    obtain ⟨u, hu, e⟩ := List.mem_map.1 hm
    have := srt_mem h.2.2.1.srt u hu
    have := h.2.1
    omega
/-- those that are active in a row -/
def act (rs : List R) (y : Int) : List R := rs.filter fun r => decide (r.y ≤ y ∧ y < r.y + r.h)
theorem span_start {lo : Int} : ∀ {v : List Sp} (s : Sp), Ok lo v → s ∈ v → look v (s.f - 1) = none
  | [], _, _, h => by cases h
  | a :: r, s, h, hm => by
    obtain ⟨h1, h2, h3⟩ := okU.1 h
    rcases List.mem_cons.1 hm with rfl | hm
    · exact look_lo (lo := s.f) (by omega) (⟨Int.le_refl _, h.srt.2⟩ : Srt s.f (s :: r))
    · have hs := srt_mem h3.srt s hm
      rw [look, if_neg (by omega)]
      exact span_start s h3 hm
theorem row_len (rs : List R) (xs : List Int) (y : Int) {lo : Int} (ho : Ok lo (rowSp orB rs [] xs y)) (hl : ∀ p, look (rowSp orB rs [] xs y) p = some () ↔ hasL rs p y = true) : (rowSp orB rs [] xs y).length ≤ (act rs y).length := by
  have := len_sub (l := (rowSp orB rs [] xs y).map (·.f)) (m := (act rs y).map (·.x)) (ok_nodup ho) fun e he => by
    obtain ⟨s, hs, rfl⟩ := List.mem_map.1 he
    have k := srt_mem ho.srt s hs
    have h1 := (hl s.f).1 (by rw [mem_look ho.srt s hs (Int.le_refl _) k.2])
    have h2 : ¬ hasL rs (s.f - 1) y = true := fun h => by have := (hl _).2 h; rw [span_start s ho hs] at this; cases this
    obtain ⟨r, hr, hi⟩ := hasL_iff.1 h1
    have h3 : ¬ inR r (s.f - 1) y := fun h => h2 (hasL_iff.2 ⟨r, hr, h⟩)
    refine List.mem_map.2 ⟨r, List.mem_filter.2 ⟨hr, ?_⟩, ?_⟩
    · unfold inR at hi; simp; omega
    · unfold inR at hi h3; omega
  simpa using this
theorem flat_mrg_len (G : Int → List Sp) (es : List Int) : (flat (mrg (cut (fun q => if G q = [] then none else some (G q)) es))).length ≤ ((gaps es).map fun c => (G c.1).length).sum := by
  have key : ∀ (l out : List Bd), (flat (l.foldl push1 out)).length ≤ (flat out).length + (flat l).length := by
    intro l
    induction l with
    | nil => intro out; simp [flat]
    | cons s l ih =>
      intro out
      rw [List.foldl_cons, flat_cons, List.length_append]
      refine Nat.le_trans (ih _) ?_
      have : (flat (push1 out s)).length ≤ (flat out).length + (bdR s).length := by
        unfold push1
        split
        · rename_i b hb
          split
          · rcases List.eq_nil_or_concat out with rfl | ⟨L, c, rfl⟩
            · cases hb
            · simp only [List.concat_eq_append, List.getLast?_concat, List.dropLast_concat] at hb ⊢
              obtain rfl := Option.some.inj hb
              rw [flat_snoc, flat_snoc]; simp [bdR]
          · rw [flat_snoc]; simp
        · rw [flat_snoc]; simp
      omega
  refine Nat.le_trans (key _ []) ?_
  simp only [flat, List.flatMap_nil, List.length_nil, Nat.zero_add]
  unfold cut
  induction gaps es with
  | nil => simp
  | cons c r ih =>
    rw [List.filterMap_cons, List.map_cons, List.sum_cons]
    by_cases h : G c.1 = []
    · simp only [h, if_true, Option.map_none]
      simpa [h] using ih
    · simp only [h, if_false, Option.map_some]
      rw [List.flatMap_cons, List.length_append]
      simp only [bdR, List.length_map] at ih ⊢
      omega
theorem gaps_len : ∀ es : List Int, (gaps es).length = es.length - 1
  | [] => rfl
  | [_] => rfl
  | _ :: b :: r => by have := gaps_len (b :: r); simp only [gaps, List.length_cons] at this ⊢; omega
theorem addE_len {v : Int} : ∀ {l : List Int}, (addE l v).length ≤ l.length + 1 ∧ (v ∈ l → Inc l → (addE l v).length = l.length)
  | [] => ⟨by simp [addE], by simp⟩
  | a :: r => by
    rw [addE]
    refine ⟨?_, fun hm hi => ?_⟩
    · split
      · simp
      · split
        · simp
        · have := (addE_len (v := v) (l := r)).1; simp only [List.length_cons]; omega
    · split
      · rcases List.mem_cons.1 hm with rfl | hm
        · omega
        · have := hi.le v hm; omega
      · split
        · rfl
        · rcases List.mem_cons.1 hm with rfl | hm
          · omega
          · rw [List.length_cons, (addE_len (v := v) (l := r)).2 hm hi.tail, List.length_cons]
theorem foldl_addE_len : ∀ (l acc : List Int), Inc acc → (l.foldl addE acc).length ≤ acc.length + l.length ∧ ((l.foldl addE acc).length = acc.length + l.length → l.Nodup ∧ ∀ e ∈ l, e ∉ acc)
  | [], acc, _ => ⟨by simp, fun _ => ⟨List.nodup_nil, by simp⟩⟩
  | a :: r, acc, h => by
    obtain ⟨h1, h2⟩ := foldl_addE_len r (addE acc a) (inc_addE h)
    obtain ⟨h3, h4⟩ := addE_len (v := a) (l := acc)
    rw [List.foldl_cons, List.length_cons]
    refine ⟨by omega, fun he => ?_⟩
    have ha : a ∉ acc := fun hm => by have := h4 hm h; omega
    have hl : (addE acc a).length = acc.length + 1 := by omega
    obtain ⟨k1, k2⟩ := h2 (by omega)
    refine ⟨List.nodup_cons.2 ⟨fun hm => k2 a hm (mem_addE.2 (.inl rfl)), k1⟩, fun e he => ?_⟩
    rcases List.mem_cons.1 he with rfl | he
    · exact ha
    · exact fun hm => k2 e he (mem_addE.2 (.inr hm))
theorem esort_len (l : List Int) : (esort l).length ≤ l.length ∧ ((esort l).length = l.length → l.Nodup) := by
  obtain ⟨h1, h2⟩ := foldl_addE_len l [] trivial
  simp only [List.length_nil, Nat.zero_add] at h1 h2
  exact ⟨h1, fun h => (h2 h).1⟩
theorem ys_all_len (rs : List R) : (rs.flatMap fun r => [r.y, r.y + r.h]).length = 2 * rs.length := by
  induction rs with
  | nil => rfl
  | cons r rs ih => rw [List.flatMap_cons, List.length_append, ih]; simp only [List.length_cons, List.length_nil]; omega
theorem nodup_ys {rs : List R} (h : (rs.flatMap fun r => [r.y, r.y + r.h]).Nodup) : (rs.map (·.y)).Nodup := by
  refine h.sublist ?_
  clear h
  induction rs with
  | nil => exact List.nil_sublist _
  | cons r rs ih => rw [List.map_cons, List.flatMap_cons]; exact ((List.Sublist.cons _ ih)).cons_cons _
theorem act_le (rs : List R) (y : Int) : (act rs y).length ≤ rs.length := List.length_filter_le _ _
theorem sum_le (f : Int × Int → Nat) (n : Nat) : ∀ l : List (Int × Int), (∀ c ∈ l, f c ≤ n) → (l.map f).sum ≤ l.length * n
  | [], _ => by simp
  | c :: l, h => by
    have := sum_le f n l fun c hc => h c (by simp [hc])
    have := h c (by simp)
    rw [List.map_cons, List.sum_cons, List.length_cons, Nat.succ_mul]; omega
/-- Five rectangles make at most forty. -/
theorem five {rs l : List R} (h : Rg l) (h5 : rs.length ≤ 5) (e : ∀ p q, hasL l p q = true ↔ hasL rs p q = true) : l.length ≤ 40 := by
  have e1 : l = makeR orB rs [] := h.reg.unique (make_spec (op := orB) rfl rs []) fun p q => by rw [e]; simp [orB, hasL_nil]
  have hla : ∀ r ∈ rs, r ∈ rs ++ ([] : List R) := fun r hr => List.mem_append_left _ hr
  have e2 : makeR orB rs [] = flat (mrg (cut (fun q => if rowSp orB rs [] (xsF (rs ++ [])) q = [] then none else some (rowSp orB rs [] (xsF (rs ++ [])) q)) (ysF (rs ++ [])))) := by
    unfold makeR mrg
    have hinc : Inc (ysF (rs ++ [])) := inc_esort _
    cases hy : ysF (rs ++ []) with
    | nil => rfl
    | cons y r =>
      rw [hy] at hinc
      exact mk_fold _ r y [] ([], []) hinc (Int.le_refl _) (by simp) rfl (by simp) (by simp)
  rw [e1, e2]
  refine Nat.le_trans (flat_mrg_len _ _) ?_
  have hrow : ∀ q, (rowSp orB rs [] (xsF (rs ++ [])) q).length ≤ (act rs q).length := by
    intro q
    obtain ⟨_, ⟨lo, h2⟩, h3⟩ := cut_any (fun x => if orB (hasL rs x q) (hasL [] x q) then some () else none) (inc_esort ((rs ++ ([] : List R)).flatMap fun r : R => [r.x, r.x + r.w]))
      (fun c hc y h1 h2 => by rw [has_x hla hc h1 h2, hasL_nil, hasL_nil])
      (fun y h => by rw [has_xo hla h, hasL_nil]; rfl)
    refine row_len rs _ q h2 fun p => ?_
    rw [rowSp, xsF, h3]
    by_cases hc : hasL rs p q = true <;> simp [hc, orB, hasL_nil]
  rw [List.append_nil] at hrow ⊢
  have hf : ∀ c ∈ gaps (ysF rs), (rowSp orB rs [] (xsF rs) c.1).length ≤ 5 := fun c _ => Nat.le_trans (hrow _) (Nat.le_trans (act_le _ _) h5)
  have hlen := esort_len (rs.flatMap fun r => [r.y, r.y + r.h])
  rw [ys_all_len] at hlen
  by_cases h9 : (gaps (ysF rs)).length ≤ 8
  · have := sum_le (fun c => (rowSp orB rs [] (xsF rs) c.1).length) 5 _ hf
    omega
  · rw [gaps_len] at h9
    have h10 : (ysF rs).length = 2 * rs.length := by have := hlen.1; unfold ysF at h9 ⊢; omega
    have hnd := nodup_ys (hlen.2 (by unfold ysF at h10; exact h10))
    have hinc : Inc (ysF rs) := inc_esort _
    have hmem : ∀ r ∈ rs, r.y ∈ ysF rs := fun r hr => mem_ys.2 ⟨r, hr, .inl rfl⟩
    match hy : ysF rs, hinc, hmem, h9 with
    | a :: b :: c :: m, hinc, hmem, h9 =>
      rw [hy] at hf h10
      have hact : ∀ (q : Int) (es : List Int), (∀ r ∈ rs, r.y ≤ q → r.y ∈ es) → (act rs q).length ≤ es.length := by
        intro q es hes
        have := len_sub (l := (act rs q).map (·.y)) (m := es) (hnd.sublist ((List.filter_sublist).map _)) fun e he => by
          obtain ⟨r, hr, rfl⟩ := List.mem_map.1 he
          obtain ⟨h1, h2⟩ := List.mem_filter.1 hr
          exact hes r h1 (by simp at h2; omega)
        simpa using this
      have ha := hact a [a] fun r hr hle => by
        rcases List.mem_cons.1 (hmem r hr) with h1 | h1
        · simp [h1]
        · have := hinc.le _ h1; omega
      have hb := hact b [a, b] fun r hr hle => by
        rcases List.mem_cons.1 (hmem r hr) with h1 | h1
        · simp [h1]
        · rcases List.mem_cons.1 h1 with h1 | h1
          · simp [h1]
          · have := hinc.2.le _ h1; omega
      have hs := sum_le (fun c => (rowSp orB rs [] (xsF rs) c.1).length) 5 (gaps (c :: m)) fun p hp => hf p (by rw [gaps, gaps]; simp [hp])
      rw [gaps_len] at hs
      have r1 := hrow a
      have r2 := hrow b
      rw [gaps, gaps, List.map_cons, List.map_cons, List.sum_cons, List.sum_cons]
      simp only [List.length_cons, List.length_nil] at ha hb h10 hs ⊢
      omega
    | [a, b], _, _, h9 => simp at h9
    | [a], _, _, h9 => simp at h9
    | [], _, _, h9 => simp at h9
/-- Of five rectangles at most, put one by one, comes the region of all. -/
theorem flat_five {l : List R} (h5 : l.length ≤ 5) (p q : Int) : hasL (flatF l) p q = true ↔ inF l p q := by
  rw [flatF, foldl_few l [] [] Rg.nil (by simp [inF, hasL]) (fun k m hm hp => ?_) p q, List.nil_append]
  refine five (rs := ((l.take k).map fun r => rBound r)) hm (by rw [List.length_map]; exact Nat.le_trans (List.length_take_le' _ _) h5) fun p q => ?_
  rw [hp, List.nil_append, inF, hasL_iff, hasL_iff]
  constructor
  · rintro ⟨⟨r, hr, hi⟩, hf⟩
    exact ⟨_, List.mem_map.2 ⟨r, hr, rfl⟩, inR_bound.2 ⟨hi, hf⟩⟩
  · rintro ⟨r, hr, hi⟩
    obtain ⟨r', hr', rfl⟩ := List.mem_map.1 hr
    exact ⟨⟨r', hr', (inR_bound.1 hi).1⟩, (inR_bound.1 hi).2⟩
theorem flat_perm {l m : List R} (h5 : l.length ≤ 5) (hm : m.length ≤ 5) (h : ∀ r, r ∈ l ↔ r ∈ m) : flatF l = flatF m := by
  refine (rg_flat l).ext (rg_flat m) fun p q => ?_
  rw [Bool.eq_iff_iff, flat_five h5, flat_five hm]
  unfold inF
  rw [hasL_iff, hasL_iff]
  exact ⟨fun ⟨⟨r, hr, hi⟩, hf⟩ => ⟨⟨r, (h r).1 hr, hi⟩, hf⟩, fun ⟨⟨r, hr, hi⟩, hf⟩ => ⟨⟨r, (h r).2 hr, hi⟩, hf⟩⟩
theorem flat_flat (l : List R) : flatF (flatF l) = flatF l := flat_self (rg_flat l) (len_flat l)
theorem add_in {l : List R} {r : R} (hr : r ∈ l) : damAdd (flatF l) r = flatF l := by
  unfold damAdd
  rw [flat_flat]
  exact put_in (rg_flat l) (len_flat l) fun p q hi hf => has_flat_dam (hasL_iff.2 ⟨r, hr, hi⟩) hf
end Go.Proofs.YtjjdgbhplechbaaGreatDoor.Reg
/- Sorted numbers, each once: what the library's sort and compaction make. -/
namespace Go.Proofs.YtjjdgbhplechbaaGreatDoor.Reg

theorem inc_snoc {a : Int} : ∀ {l : List Int}, Inc (l ++ [a]) ↔ Inc l ∧ ∀ b, l.getLast? = some b → b < a
  | [] => by simp [Inc]
  | [x] => by simp [Inc]
  | x :: y :: r => by
    have ih := inc_snoc (a := a) (l := y :: r)
    simp only [List.cons_append] at ih ⊢
    rw [show Inc (x :: y :: (r ++ [a])) ↔ x < y ∧ Inc (y :: (r ++ [a])) from Iff.rfl, ih, show Inc (x :: y :: r) ↔ x < y ∧ Inc (y :: r) from Iff.rfl, List.getLast?_cons_cons, and_assoc]
theorem compact_up (s : List Int) (hs : ∀ i j, i ≤ j → j < s.length → s.toArray[i]! ≤ s.toArray[j]!) : ∀ m, m ≤ s.length →
    Inc (Lib.compactUpTo s.toArray m) ∧ (∀ e, e ∈ Lib.compactUpTo s.toArray m ↔ ∃ j, j < m ∧ s.toArray[j]! = e) ∧ ∀ b, (Lib.compactUpTo s.toArray m).getLast? = some b → 0 < m ∧ b = s.toArray[m - 1]!
  | 0, _ => by simp [Lib.compactUpTo, Inc]
  | m + 1, hm => by
    obtain ⟨h1, h2, h3⟩ := compact_up s hs m (by omega)
    rw [Lib.compactUpTo_succ]
    by_cases hk : Lib.keeps s.toArray m = true
    · rw [if_pos hk]
      refine ⟨inc_snoc.2 ⟨h1, fun b hb => ?_⟩, fun e => ?_, fun b hb => ?_⟩
      · obtain ⟨h0, rfl⟩ := h3 b hb
        have hle := hs (m - 1) m (by omega) (by omega)
        have hne : s.toArray[m]! ≠ s.toArray[m - 1]! := by
          simp only [Lib.keeps, decide_eq_true_eq] at hk
          exact hk.resolve_left (by omega)
        omega
      · rw [List.mem_append, h2, List.mem_singleton]
        constructor
        · rintro (⟨j, hj, rfl⟩ | rfl)
          · exact ⟨j, by omega, rfl⟩
          · exact ⟨m, by omega, rfl⟩
        · rintro ⟨j, hj, rfl⟩
          rcases Nat.lt_or_ge j m with h | h
          · exact .inl ⟨j, h, rfl⟩
          · obtain rfl : j = m := by omega
            exact .inr rfl
      · rw [List.getLast?_concat] at hb
        exact ⟨by omega, (Option.some.inj hb).symm⟩
    · rw [if_neg hk, List.append_nil]
      have hk' : m ≠ 0 ∧ s.toArray[m]! = s.toArray[m - 1]! := by
        simp only [Lib.keeps, decide_eq_true_eq, not_or, Decidable.not_not] at hk
        exact hk
      refine ⟨h1, fun e => ?_, fun b hb => ?_⟩
      · rw [h2]
        constructor
        · rintro ⟨j, hj, rfl⟩; exact ⟨j, by omega, rfl⟩
        · rintro ⟨j, hj, rfl⟩
          rcases Nat.lt_or_ge j m with h | h
          · exact ⟨j, h, rfl⟩
          · obtain rfl : j = m := by omega
            exact ⟨j - 1, by omega, hk'.2.symm⟩
      · obtain ⟨h0, rfl⟩ := h3 b hb
        exact ⟨by omega, by rw [Nat.add_sub_cancel]; exact hk'.2.symm⟩
theorem compact_sort (zs : List Int) : Lib.compact (zs.mergeSort fun x y => decide (x ≤ y)) = esort zs := by
  have hp : (zs.mergeSort fun x y => decide (x ≤ y)).Pairwise fun a b => decide (a ≤ b) = true := List.pairwise_mergeSort (fun a b c h1 h2 => by simp at *; omega) (fun a b => by simp; omega) zs
  have hs : ∀ i j, i ≤ j → j < (zs.mergeSort fun x y => decide (x ≤ y)).length → (zs.mergeSort fun x y => decide (x ≤ y)).toArray[i]! ≤ (zs.mergeSort fun x y => decide (x ≤ y)).toArray[j]! := by
    intro i j hij hj
    rcases Nat.lt_or_eq_of_le hij with h | rfl
    · have := List.pairwise_iff_getElem.1 hp i j (by omega) hj h
      rw [getElem!_pos _ i (by simp; simp at hj; omega), getElem!_pos _ j (by simpa using hj)]
      simpa using this
    · exact Int.le_refl _
  obtain ⟨h1, h2, _⟩ := compact_up _ hs _ (Nat.le_refl _)
  refine esort_eq h1 fun e => ?_
  rw [show Lib.compact (zs.mergeSort fun x y => decide (x ≤ y)) = Lib.compactUpTo (zs.mergeSort fun x y => decide (x ≤ y)).toArray (zs.mergeSort fun x y => decide (x ≤ y)).length from rfl, h2]
  have hm : e ∈ zs ↔ e ∈ zs.mergeSort fun x y => decide (x ≤ y) := (List.mem_mergeSort).symm
  rw [hm, List.mem_iff_getElem]
  constructor
  · rintro ⟨j, hj, rfl⟩; exact ⟨j, hj, by rw [getElem!_pos _ j (by simpa using hj)]; simp⟩
  · rintro ⟨j, hj, rfl⟩; exact ⟨j, hj, by rw [getElem!_pos _ j (by simpa using hj)]; simp⟩
theorem compact_le (zs : List Int) : (Lib.compact zs).length ≤ zs.length := by
  unfold Lib.compact Lib.compactUpTo
  rw [List.length_map]
  exact Nat.le_trans (List.length_filter_le _ _) (by simp)
theorem sort_len (zs : List Int) : (zs.mergeSort fun x y => decide (x ≤ y)).length = zs.length := List.length_mergeSort _
end Go.Proofs.YtjjdgbhplechbaaGreatDoor.Reg
