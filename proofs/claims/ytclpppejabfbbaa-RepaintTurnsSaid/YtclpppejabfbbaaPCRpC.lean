/- Repaint: Changed, the program's and the reference's, in plain words. -/
import Derived.Test.YtclpppejabfbbaaPCRpB
set_option linter.unusedVariables false
set_option linter.unusedSimpArgs false
namespace Go.Proofs.Ytclpppejabfbbaa.PC
open Go.RowKit Go.Proofs.YtclpppejabfbbaaW.PrintWords Go.Proofs.Ytclpppejabfbbaa.Reg Go.Proofs.Ytclpppejabfbbaa.Rect Go.Proofs.Ytclpppejabfbbaa.Wk

def zV : S54 := ⟨0, 0, 0, 0, 0, 0⟩
theorem near_z : NearV zV := ⟨⟨by decide, by decide⟩, ⟨by decide, by decide⟩, ⟨by decide, by decide⟩, ⟨by decide, by decide⟩⟩
def atV (x : List S54) (i : Nat) : S54 := (x[i]?).getD zV
theorem near_at {x : List S54} (h : ∀ v ∈ x, NearV v) (i : Nat) : NearV (atV x i) := by
  unfold atV
  cases e : x[i]? with
  | none => exact near_z
  | some v => exact h _ (List.mem_of_getElem? e)
theorem at_eq {x : List S54} {i : Nat} (h : i < x.length) : atV x i = x[i] := by
  unfold atV
  rw [List.getElem?_eq_getElem h]; rfl
theorem atP (x : List S54) (i : Nat) : repaint_at.f x (i : Int) = some ((atV x i).f0, (atV x i).f1, (atV x i).f2, (atV x i).f3, (atV x i).f4, (atV x i).f5, decide (i < x.length)) := by
  unfold repaint_at.f
  by_cases h : i < x.length
  · rw [if_neg (by omega), if_pos (by omega), if_pos (by omega), rdV h, at_eq h, decide_eq_true h]
  · rw [if_pos (by omega), decide_eq_false h]
    unfold atV
    rw [List.getElem?_eq_none (by omega)]
    rfl
section
variable {old l : List S54} {ds : List S52} {X : Int} {W : List S26}
theorem j2P {v : S54} (hv : NearV v) (b : Bool) (i : Int) (S : List R)
    (e : Ev (fun k => repaint_Changed.l0 k old l ds ((flatF (S ++ if b = true then [rv v] else [])).map ofR) X (wrap64 (i + 1))) W) :
    Ev (fun k => repaint_Changed.j2 k old l ds ((flatF S).map ofR) b X i v.f0 v.f1 v.f2 v.f3 v.f4 v.f5) W := by
  cases b with
  | true =>
    refine Ev.next (fun k => by rw [repaint_Changed.j2, if_pos rfl]) ?_
    refine Ev.bind0 (v := tupR (rv v)) rfl ?_
    exact Ev.bind (addP (S := S) (near_64 hv)) e
  | false =>
    rw [if_neg (by decide), List.append_nil] at e
    exact Ev.next (fun k => by rw [repaint_Changed.j2, if_neg (by decide)]) e
theorem j1P {v u : S54} (hv : NearV v) (hu : NearV u) (hd : Dok ds) (b c q : Bool) (i : Int) (S : List R)
    (e : Ev (fun k => repaint_Changed.l0 k old l ds ((flatF (S ++ if q = true then dList v ds else (if b = true then [rv v] else []) ++ (if c = true then [rv u] else []))).map ofR) X (wrap64 (i + 1))) W) :
    Ev (fun k => repaint_Changed.j1 k old l ds ((flatF S).map ofR) b c X i q v.f0 v.f1 v.f2 v.f3 v.f4 v.f5 u.f0 u.f1 u.f2 u.f3 u.f4 u.f5) W := by
  cases q with
  | true =>
    refine Ev.next (fun k => by rw [repaint_Changed.j1, if_pos rfl]) ?_
    exact Ev.bind (dirtP hv hd S) e
  | false =>
    rw [if_neg (by decide), ← List.append_assoc] at e
    cases b with
    | true =>
      refine Ev.next (fun k => by rw [repaint_Changed.j1, if_neg (by decide), if_pos rfl]) ?_
      refine Ev.bind0 (v := tupR (rv v)) rfl ?_
      refine Ev.bind (addP (S := S) (near_64 hv)) ?_
      exact j2P hu c i (S ++ [rv v]) e
    | false =>
      rw [if_neg (by decide), List.append_nil] at e
      refine Ev.next (fun k => by rw [repaint_Changed.j1, if_neg (by decide), if_neg (by decide)]) ?_
      exact j2P hu c i S e
end
theorem stepL_eq (old l : List S54) (ds : List S52) (i : Nat) : stepL old l ds i = if (decide (i < old.length) && (decide (i < l.length) && eqV (atV old i) (atV l i))) = true then dList (atV old i) ds else (if decide (i < old.length) = true then [rv (atV old i)] else []) ++ (if decide (i < l.length) = true then [rv (atV l i)] else []) := by
  unfold stepL
  by_cases h : i < old.length <;> by_cases h' : i < l.length
  · rw [List.getElem?_eq_getElem h, List.getElem?_eq_getElem h', decide_eq_true h, decide_eq_true h', at_eq h, at_eq h']
    simp only [Bool.true_and, if_true]
    cases eqV old[i] l[i] <;> rfl
  · rw [List.getElem?_eq_getElem h, List.getElem?_eq_none (by omega), decide_eq_true h, decide_eq_false h', at_eq h]
    rfl
  · rw [List.getElem?_eq_none (by omega), List.getElem?_eq_getElem h', decide_eq_false h, decide_eq_true h', at_eq h']
    rfl
  · rw [List.getElem?_eq_none (by omega), List.getElem?_eq_none (by omega), decide_eq_false h, decide_eq_false h']
    rfl
theorem chg_l {old l : List S54} {ds : List S52} (ho : ∀ v ∈ old, NearV v) (hl : ∀ v ∈ l, NearV v) (hd : Dok ds) (n1 : old.length ≤ 1000000) (n2 : l.length ≤ 1000000) {X : Int} (hX : X = ((max old.length l.length : Nat) : Int)) : ∀ (n i : Nat) (S : List R), i + n = max old.length l.length →
    Ev (fun k => repaint_Changed.l0 k old l ds ((flatF S).map ofR) X (i : Int)) ((flatF (S ++ seqL old l ds n i)).map ofR)
  | 0, i, S, h => by
    rw [show seqL old l ds 0 i = [] from rfl, List.append_nil]
    refine Ev.next (G := fun _ => some ((flatF S).map ofR)) (fun k => ?_) (Ev.ret _)
    rw [repaint_Changed.l0, if_neg (by omega), if_pos (by omega), if_pos (by omega), Int.toNat_natCast, List.take_length]
  | n + 1, i, S, h => by
    have e1 : wrap64 ((i : Int) + 1) = ((i + 1 : Nat) : Int) := by rw [w64 (by omega) (by omega)]; rfl
    have ih := chg_l ho hl hd n1 n2 hX n (i + 1) (S ++ stepL old l ds i) (by omega)
    rw [List.append_assoc, ← seqL_succ, ← e1] at ih
    refine Ev.next (fun k => by rw [repaint_Changed.l0, if_pos (by omega)]) ?_
    refine Ev.bind0 (atP old i) ?_
    refine Ev.bind0 (atP l i) ?_
    rw [stepL_eq] at ih
    by_cases h1 : i < old.length
    · refine Ev.pos (decide_eq_true h1) ?_
      by_cases h2 : i < l.length
      · refine Ev.pos (decide_eq_true h2) ?_
        exact j1P (near_at ho i) (near_at hl i) hd (decide (i < old.length)) (decide (i < l.length)) (eqV (atV old i) (atV l i)) (i : Int) S (by rw [decide_eq_true h1, decide_eq_true h2, Bool.true_and, Bool.true_and] at ih; rw [decide_eq_true h1, decide_eq_true h2]; exact ih)
      · refine Ev.neg (by show ¬ decide (i < l.length) = true; rw [decide_eq_false h2]; decide) ?_
        exact j1P (near_at ho i) (near_at hl i) hd (decide (i < old.length)) (decide (i < l.length)) false (i : Int) S (by rw [decide_eq_true h1, decide_eq_false h2, Bool.true_and, Bool.false_and] at ih; rw [decide_eq_true h1, decide_eq_false h2]; exact ih)
    · refine Ev.neg (by show ¬ decide (i < old.length) = true; rw [decide_eq_false h1]; decide) ?_
      exact j1P (near_at ho i) (near_at hl i) hd (decide (i < old.length)) (decide (i < l.length)) false (i : Int) S (by rw [decide_eq_false h1, Bool.false_and] at ih; rw [decide_eq_false h1]; exact ih)
theorem chgP {old l : List S54} {ds : List S52} (ho : ∀ v ∈ old, NearV v) (hl : ∀ v ∈ l, NearV v) (hd : Dok ds) (n1 : old.length ≤ 1000000) (n2 : l.length ≤ 1000000) :
    Ev (fun k => repaint_Changed.f k old l ds) ((flatF (seqL old l ds (max old.length l.length) 0)).map ofR) := by
  have := chg_l ho hl hd n1 n2 (X := mx (old.length : Int) (l.length : Int)) (by rw [mx_max]; omega) (max old.length l.length) 0 [] (by omega)
  rw [List.nil_append] at this
  exact this

/-! the reference's -/
section
variable {old l : List S54} {ds : List S75} {W : List S26}
end
/-! both are one -/
end Go.Proofs.Ytclpppejabfbbaa.PC
