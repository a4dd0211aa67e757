/- States applied and merged one behind the other: plain lists. -/
import Derived.Test.YtnboncbekcodnaaSt7
set_option linter.unusedVariables false
set_option linter.unusedSimpArgs false
namespace Go.Proofs.Ytnboncbekcodnaa.St
open Go.RowKit Go.Proofs.Ytnboncbekcodnaa.Kit

/-- no child stands twice -/
def onceC (l : List Ch) : Prop := l.Pairwise (fun a b => a.id ≠ b.id)
def hasC (l : List Ch) (i : Int) : Prop := ∃ a ∈ l, a.id = i

theorem put_cons (a : Ch) (l : List Ch) (c : Ch) : putC (a :: l) c = if a.id = c.id then c :: l else a :: putC l c := rfl
theorem has_put {l : List Ch} {i : Int} (h : hasC l i) (c : Ch) : hasC (putC l c) i := by
  induction l with
  | nil => obtain ⟨a, ha, _⟩ := h; cases ha
  | cons a l ih =>
    unfold putC
    obtain ⟨b, hb, hi⟩ := h
    by_cases e : a.id = c.id
    · rw [if_pos e]
      rcases List.mem_cons.1 hb with rfl | hb
      · exact ⟨c, List.mem_cons_self .., by rw [← e]; exact hi⟩
      · exact ⟨b, List.mem_cons_of_mem _ hb, hi⟩
    · rw [if_neg e]
      rcases List.mem_cons.1 hb with rfl | hb
      · exact ⟨b, List.mem_cons_self .., hi⟩
      · obtain ⟨d, hd, hdi⟩ := ih ⟨b, hb, hi⟩
        exact ⟨d, List.mem_cons_of_mem _ hd, hdi⟩
theorem has_self (l : List Ch) (c : Ch) : hasC (putC l c) c.id := by
  induction l with
  | nil => exact ⟨c, by simp [putC], rfl⟩
  | cons a l ih =>
    unfold putC
    by_cases e : a.id = c.id
    · rw [if_pos e]; exact ⟨c, List.mem_cons_self .., rfl⟩
    · rw [if_neg e]; obtain ⟨d, hd, hdi⟩ := ih; exact ⟨d, List.mem_cons_of_mem _ hd, hdi⟩
theorem put_put (l : List Ch) {c d : Ch} (h : c.id = d.id) : putC (putC l c) d = putC l d := by
  induction l with
  | nil => simp [putC, h]
  | cons a l ih =>
    rw [put_cons a l c, put_cons a l d]
    by_cases e : a.id = c.id
    · rw [if_pos e, if_pos (e.trans h), put_cons, if_pos h]
    · rw [if_neg e, if_neg (fun q => e (q.trans h.symm)), put_cons, if_neg (fun q => e (q.trans h.symm)), ih]
theorem put_comm {l : List Ch} {c d : Ch} (h : c.id ≠ d.id) (hp : hasC l c.id) : putC (putC l d) c = putC (putC l c) d := by
  induction l with
  | nil => obtain ⟨a, ha, _⟩ := hp; cases ha
  | cons a l ih =>
    by_cases e : a.id = c.id
    · have e' : a.id ≠ d.id := fun q => h (e.symm.trans q)
      simp [putC, e, h, fun q : c.id = d.id => h q]
    · by_cases e' : a.id = d.id
      · have : d.id ≠ c.id := fun q => h q.symm
        simp [putC, e', this]
      · have hp' : hasC l c.id := by
          obtain ⟨b, hb, hi⟩ := hp
          rcases List.mem_cons.1 hb with rfl | hb
          · exact absurd hi e
          · exact ⟨b, hb, hi⟩
        simp only [putC, if_neg e, if_neg e']
        rw [ih hp']
theorem put_fold (A : List Ch) (c : Ch) : ∀ m : List Ch, hasC m c.id → (∀ a ∈ A, a.id ≠ c.id) → putC (A.foldl putC m) c = A.foldl putC (putC m c) := by
  induction A with
  | nil => intro m _ _; rfl
  | cons a A ih =>
    intro m hm hA
    rw [List.foldl_cons, List.foldl_cons, ih _ (has_put hm a) (fun b hb => hA b (List.mem_cons_of_mem _ hb)), put_comm (fun q => hA a (List.mem_cons_self ..) q.symm) hm]
theorem fold_put (A : List Ch) (c : Ch) : ∀ n : List Ch, onceC A → (putC A c).foldl putC n = putC (A.foldl putC n) c := by
  induction A with
  | nil => intro n _; rfl
  | cons a A ih =>
    intro n h
    obtain ⟨h1, h2⟩ := List.pairwise_cons.1 h
    rw [put_cons a A c]
    by_cases e : a.id = c.id
    · rw [if_pos e, List.foldl_cons, List.foldl_cons, put_fold A c _ (e ▸ has_self n a) (fun b hb q => h1 b hb (e.trans q.symm)), put_put n e]
    · rw [if_neg e, List.foldl_cons, List.foldl_cons, ih _ h2]
theorem put_mem {l : List Ch} {c b : Ch} (h : b ∈ putC l c) : b ∈ l ∨ b = c := by
  induction l with
  | nil => simp [putC] at h; exact .inr h
  | cons a l ih =>
    unfold putC at h
    by_cases e : a.id = c.id
    · rw [if_pos e] at h
      rcases List.mem_cons.1 h with rfl | h
      · exact .inr rfl
      · exact .inl (List.mem_cons_of_mem _ h)
    · rw [if_neg e] at h
      rcases List.mem_cons.1 h with rfl | h
      · exact .inl (List.mem_cons_self ..)
      · exact (ih h).imp (List.mem_cons_of_mem _) id
theorem once_put {A : List Ch} (h : onceC A) (c : Ch) : onceC (putC A c) := by
  induction A with
  | nil => simp [putC, onceC]
  | cons a A ih =>
    obtain ⟨h1, h2⟩ := List.pairwise_cons.1 h
    unfold putC
    by_cases e : a.id = c.id
    · rw [if_pos e]
      exact List.pairwise_cons.2 ⟨fun b hb => e ▸ h1 b hb, h2⟩
    · rw [if_neg e]
      refine List.pairwise_cons.2 ⟨fun b hb => ?_, ih h2⟩
      rcases put_mem hb with hb | rfl
      · exact h1 b hb
      · exact e
theorem fold_fold (b : List Ch) : ∀ A n : List Ch, onceC A → (b.foldl putC A).foldl putC n = b.foldl putC (A.foldl putC n) := by
  induction b with
  | nil => intro A n _; rfl
  | cons c b ih =>
    intro A n h
    rw [List.foldl_cons, List.foldl_cons, ih _ _ (once_put h c), fold_put A c n h]
theorem apply_merge (n a b : Stt) (h : onceC a.P) : applyS n (mergeS a b) = applyS (applyS n a) b := by
  unfold applyS mergeS
  simp only [fold_fold b.P a.P n.P h, List.append_assoc]
  cases a.att <;> cases b.att <;> cases a.inp <;> cases b.inp <;> cases a.ord <;> cases b.ord <;> rfl
theorem merge_assoc (n a b : Stt) (h : onceC a.P) : mergeS n (mergeS a b) = mergeS (mergeS n a) b := by
  unfold mergeS
  simp only [fold_fold b.P a.P n.P h, List.append_assoc, Bool.or_assoc]
  cases a.att <;> cases b.att <;> cases a.inp <;> cases b.inp <;> cases a.ord <;> cases b.ord <;> rfl
theorem merge_F (n a b : Stt) : (mergeS (mergeS n a) b).F = (mergeS n (mergeS a b)).F := by simp [mergeS]
theorem merge_D (n a b : Stt) : (mergeS (mergeS n a) b).D = (mergeS n (mergeS a b)).D := by simp [mergeS]
theorem merge_B (n a b : Stt) : (mergeS (mergeS n a) b).buf = (mergeS n (mergeS a b)).buf := by
  unfold mergeS
  by_cases ha : a.att = true <;> by_cases hb : b.att = true <;> simp [ha, hb]
theorem merge_O (n a b : Stt) : (mergeS (mergeS n a) b).O = (mergeS n (mergeS a b)).O := by
  unfold mergeS
  by_cases ha : a.ord = true <;> by_cases hb : b.ord = true <;> simp [ha, hb]
theorem StR.at {w w' : World} {t : Stt} {h : Hd} (s : StR w w.heap.size t h) (hb : Below w.heap.size w w') : StR w' w'.heap.size t h := (s.be hb).more hb.size
end Go.Proofs.Ytnboncbekcodnaa.St
