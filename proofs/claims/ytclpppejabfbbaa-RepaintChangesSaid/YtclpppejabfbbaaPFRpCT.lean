/- Texts of this claim, one behind the other: each begins with its own remark. -/
import Derived.Test.YtclpppejabfbbaaPFRpBT
/- Repaint: Changed, the program's and the reference's, in plain words. -/
set_option linter.unusedVariables false
set_option linter.unusedSimpArgs false
namespace Go.Proofs.Ytclpppejabfbbaa.PF
open Go.RowKit Go.Proofs.YtclpppejabfbbaaW.PrintWords Go.Proofs.Ytclpppejabfbbaa.Reg Go.Proofs.Ytclpppejabfbbaa.Rect Go.Proofs.Ytclpppejabfbbaa.Wk

def zV : S54 := ⟨0, 0, 0, 0, 0, 0⟩
theorem near_z : NearV zV := ⟨⟨by decide, by decide⟩, ⟨by decide, by decide⟩, ⟨by decide, by decide⟩, ⟨by decide, by decide⟩⟩
def atV (x : List S54) (i : Nat) : S54 := (x[i]?).getD zV
theorem near_at {x : List S54} (h : ∀ v ∈ x, NearV v) (i : Nat) : NearV (atV x i) := by
  unfold atV
  cases e : x[i]? with
  | none => exact near_z
  | some v => exact h _ (List.mem_of_getElem? e)
theorem at_eq {x : List S54} {i : Nat} (h : i < x.length) : atV x i = x[i] := by
  unfold atV
  rw [List.getElem?_eq_getElem h]; rfl
theorem atP (x : List S54) (i : Nat) : repaint_at.f x (i : Int) = some ((atV x i).f0, (atV x i).f1, (atV x i).f2, (atV x i).f3, (atV x i).f4, (atV x i).f5, decide (i < x.length)) := by
  unfold repaint_at.f
  by_cases h : i < x.length
  · rw [if_neg (by omega), if_pos (by omega), if_pos (by omega), rdV h, at_eq h, decide_eq_true h]
  · rw [if_pos (by omega), decide_eq_false h]
    unfold atV
    rw [List.getElem?_eq_none (by omega)]
    rfl
section
variable {old l : List S54} {ds : List S52} {X : Int} {W : List S26}
theorem j2P {v : S54} (hv : NearV v) (b : Bool) (i : Int) (S : List R)
    (e : Ev (fun k => repaint_Changed.l0 k old l ds ((flatF (S ++ if b = true then [rv v] else [])).map ofR) X (wrap64 (i + 1))) W) :
    Ev (fun k => repaint_Changed.j2 k old l ds ((flatF S).map ofR) b X i v.f0 v.f1 v.f2 v.f3 v.f4 v.f5) W := by
  cases b with
  | true =>
    refine Ev.next (fun k => by rw [repaint_Changed.j2, if_pos rfl]) ?_
    refine Ev.bind0 (v := tupR (rv v)) rfl ?_
    exact Ev.bind (addP (S := S) (near_64 hv)) e
  | false =>
    rw [if_neg (by decide), List.append_nil] at e
    exact Ev.next (fun k => by rw [repaint_Changed.j2, if_neg (by decide)]) e
theorem j1P {v u : S54} (hv : NearV v) (hu : NearV u) (hd : Dok ds) (b c q : Bool) (i : Int) (S : List R)
    (e : Ev (fun k => repaint_Changed.l0 k old l ds ((flatF (S ++ if q = true then dList v ds else (if b = true then [rv v] else []) ++ (if c = true then [rv u] else []))).map ofR) X (wrap64 (i + 1))) W) :
    Ev (fun k => repaint_Changed.j1 k old l ds ((flatF S).map ofR) b c X i q v.f0 v.f1 v.f2 v.f3 v.f4 v.f5 u.f0 u.f1 u.f2 u.f3 u.f4 u.f5) W := by
  cases q with
  | true =>
    refine Ev.next (fun k => by rw [repaint_Changed.j1, if_pos rfl]) ?_
    exact Ev.bind (dirtP hv hd S) e
  | false =>
    rw [if_neg (by decide), ← List.append_assoc] at e
    cases b with
    | true =>
      refine Ev.next (fun k => by rw [repaint_Changed.j1, if_neg (by decide), if_pos rfl]) ?_
      refine Ev.bind0 (v := tupR (rv v)) rfl ?_
      refine Ev.bind (addP (S := S) (near_64 hv)) ?_
      exact j2P hu c i (S ++ [rv v]) e
    | false =>
      rw [if_neg (by decide), List.append_nil] at e
      refine Ev.next (fun k => by rw [repaint_Changed.j1, if_neg (by decide), if_neg (by decide)]) ?_
      exact j2P hu c i S e
end
theorem stepL_eq (old l : List S54) (ds : List S52) (i : Nat) : stepL old l ds i = if (decide (i < old.length) && (decide (i < l.length) && eqV (atV old i) (atV l i))) = true then dList (atV old i) ds else (if decide (i < old.length) = true then [rv (atV old i)] else []) ++ (if decide (i < l.length) = true then [rv (atV l i)] else []) := by
  unfold stepL
  by_cases h : i < old.length <;> by_cases h' : i < l.length
  · rw [List.getElem?_eq_getElem h, List.getElem?_eq_getElem h', decide_eq_true h, decide_eq_true h', at_eq h, at_eq h']
    simp only [Bool.true_and, if_true]
    cases eqV old[i] l[i] <;> rfl
  · rw [List.getElem?_eq_getElem h, List.getElem?_eq_none (by omega), decide_eq_true h, decide_eq_false h', at_eq h]
    rfl
  · rw [List.getElem?_eq_none (by omega), List.getElem?_eq_getElem h', decide_eq_false h, decide_eq_true h', at_eq h']
    rfl
  · rw [List.getElem?_eq_none (by omega), List.getElem?_eq_none (by omega), decide_eq_false h, decide_eq_false h']
    rfl
theorem chg_l {old l : List S54} {ds : List S52} (ho : ∀ v ∈ old, NearV v) (hl : ∀ v ∈ l, NearV v) (hd : Dok ds) (n1 : old.length ≤ 1000000) (n2 : l.length ≤ 1000000) {X : Int} (hX : X = ((max old.length l.length : Nat) : Int)) : ∀ (n i : Nat) (S : List R), i + n = max old.length l.length →
    Ev (fun k => repaint_Changed.l0 k old l ds ((flatF S).map ofR) X (i : Int)) ((flatF (S ++ seqL old l ds n i)).map ofR)
  | 0, i, S, h => by
    rw [show seqL old l ds 0 i = [] from rfl, List.append_nil]
    refine Ev.next (G := fun _ => some ((flatF S).map ofR)) (fun k => ?_) (Ev.ret _)
    rw [repaint_Changed.l0, if_neg (by omega), if_pos (by omega), if_pos (by omega), Int.toNat_natCast, List.take_length]
  | n + 1, i, S, h => by
    have e1 : wrap64 ((i : Int) + 1) = ((i + 1 : Nat) : Int) := by rw [w64 (by omega) (by omega)]; rfl
    have ih := chg_l ho hl hd n1 n2 hX n (i + 1) (S ++ stepL old l ds i) (by omega)
    rw [List.append_assoc, ← seqL_succ, ← e1] at ih
    refine Ev.next (fun k => by rw [repaint_Changed.l0, if_pos (by omega)]) ?_
    refine Ev.bind0 (atP old i) ?_
    refine Ev.bind0 (atP l i) ?_
    rw [stepL_eq] at ih
    by_cases h1 : i < old.length
    · refine Ev.pos (decide_eq_true h1) ?_
      by_cases h2 : i < l.length
      · refine Ev.pos (decide_eq_true h2) ?_
        exact j1P (near_at ho i) (near_at hl i) hd (decide (i < old.length)) (decide (i < l.length)) (eqV (atV old i) (atV l i)) (i : Int) S (by rw [decide_eq_true h1, decide_eq_true h2, Bool.true_and, Bool.true_and] at ih; rw [decide_eq_true h1, decide_eq_true h2]; exact ih)
      · refine Ev.neg (by show ¬ decide (i < l.length) = true; rw [decide_eq_false h2]; decide) ?_
        exact j1P (near_at ho i) (near_at hl i) hd (decide (i < old.length)) (decide (i < l.length)) false (i : Int) S (by rw [decide_eq_true h1, decide_eq_false h2, Bool.true_and, Bool.false_and] at ih; rw [decide_eq_true h1, decide_eq_false h2]; exact ih)
    · refine Ev.neg (by show ¬ decide (i < old.length) = true; rw [decide_eq_false h1]; decide) ?_
      exact j1P (near_at ho i) (near_at hl i) hd (decide (i < old.length)) (decide (i < l.length)) false (i : Int) S (by rw [decide_eq_false h1, Bool.false_and] at ih; rw [decide_eq_false h1]; exact ih)
theorem chgP {old l : List S54} {ds : List S52} (ho : ∀ v ∈ old, NearV v) (hl : ∀ v ∈ l, NearV v) (hd : Dok ds) (n1 : old.length ≤ 1000000) (n2 : l.length ≤ 1000000) :
    Ev (fun k => repaint_Changed.f k old l ds) ((flatF (seqL old l ds (max old.length l.length) 0)).map ofR) := by
  have := chg_l ho hl hd n1 n2 (X := mx (old.length : Int) (l.length : Int)) (by rw [mx_max]; omega) (max old.length l.length) 0 [] (by omega)
  rw [List.nil_append] at this
  exact this

/-! the reference's -/
theorem rdE {x : List S75} {i : Nat} (h : i < x.length) : rd_T75 x (i : Int) = x[i] := by
  unfold rd_T75
  rw [Int.toNat_natCast, List.getD_eq_getElem?_getD, List.getElem?_eq_getElem h]; rfl
def spotR (v : S54) (r : R) : R := if rChk (rv v) = true ∧ emp (rBound r) = false then spotF v r else zR
theorem spotR_64 {v : S54} (h : NearV v) (r : R) : I64 (spotR v r) := by
  unfold spotR
  split
  · exact spot_64 h r
  · unfold I64 zR; simp only; omega
theorem spotR_eq {v : S54} {r : R} (h : NearV v) (hr : I64 r) : Ev (fun k => tableauref24_spot.f k v.f0 v.f1 v.f2 v.f3 v.f4 v.f5 r.x r.y r.w r.h) (tupR (spotR v r)) := by
  unfold tableauref24_spot.f
  refine Ev.bind0 (bound0 hr) ?_
  refine Ev.bind0 (v := tupR (rv v)) rfl ?_
  refine Ev.bind0 (chk0 (near_64 h)) ?_
  have jt : ∀ a b c d, Ev (fun k => tableauref24_spot.j0 k true v.f0 v.f1 v.f2 v.f3 v.f4 v.f5 a b c d) (tupR zR) := fun a b c d => Ev.next (G := fun _ => some (tupR zR)) (fun k => by rw [tableauref24_spot.j0, if_pos rfl]; rfl) (Ev.ret _)
  unfold spotR
  cases hc : rChk (rv v) with
  | false =>
    rw [if_neg (by simp)]
    exact Ev.neg (by show ¬ rChk (rv v) = true; rw [hc]; decide) (jt _ _ _ _)
  | true =>
    refine Ev.pos (show rChk (rv v) = true from hc) ?_
    refine Ev.bind0 (emp0 _ _ _ _) ?_
    cases he : emp (rBound r) with
    | true =>
      rw [if_neg (by simp)]
      have he2 : emp ⟨(tup (rBound r)).1, (tup (rBound r)).2.1, (tup (rBound r)).2.2.1, (tup (rBound r)).2.2.2⟩ = true := he
      rw [he2]
      exact jt _ _ _ _
    | false =>
      rw [if_pos ⟨rfl, rfl⟩]
      have he2 : emp ⟨(tup (rBound r)).1, (tup (rBound r)).2.1, (tup (rBound r)).2.2.1, (tup (rBound r)).2.2.2⟩ = false := he
      rw [he2]
      refine Ev.next (fun k => by rw [tableauref24_spot.j0, if_neg (by decide)]) ?_
      refine Ev.bind0 (shift0' (sm_of (bound_chk r)) h.1 h.2.1) ?_
      refine Ev.bind0 (v := tupR (rv v)) rfl ?_
      refine Ev.bind0 (cut0' (shift_sm (bound_chk r) h.1 h.2.1) (near_sm h)) ?_
      exact Ev.ret _
def dOneR (v : S54) (d : S75) : List R := if d.f0 = v.f0 then d.f1.map (fun s => spotR v (toR s)) else []
def Eok (ds : List S75) : Prop := ds.length ≤ 1000000 ∧ ∀ d ∈ ds, d.f1.length ≤ 1000000 ∧ ∀ s ∈ d.f1, I64 (toR s)
section
variable {old l : List S54} {ds : List S75} {W : List S26}
theorem rchg2 (hd : Eok ds) {i : Nat} (hi : i < l.length) (hv : NearV l[i]) {a : Nat} (ha : a < ds.length) (hs : ds[a].f0 = l[i].f0) : ∀ (n j : Nat) (S : List R), j + n = ds[a].f1.length →
    Ev (fun k => tableauref24_Changed.l1 k old l ds ((flatF (S ++ (ds[a].f1.drop j).map (fun s => spotR l[i] (toR s)))).map ofR) (i : Int) (wrap64 ((a : Int) + 1))) W →
    Ev (fun k => tableauref24_Changed.l2 k old l ds ((flatF S).map ofR) (i : Int) (a : Int) (j : Int)) W
  | 0, j, S, h, e => by
    rw [List.drop_of_length_le (by omega), List.map_nil, List.append_nil] at e
    refine Ev.next (fun k => by rw [tableauref24_Changed.l2, if_pos (by omega), if_pos (by omega), if_pos (by omega), if_pos (by omega), rdE ha, rdV hi, if_pos hs, decide_eq_false (by omega)]) ?_
    exact Ev.next (fun k => by rw [tableauref24_Changed.j5, if_neg (by decide)]) e
  | n + 1, j, S, h, e => by
    have hj : j < ds[a].f1.length := by omega
    obtain ⟨d1, d2⟩ := hd.2 _ (List.getElem_mem ha)
    have e1 : wrap64 ((j : Int) + 1) = ((j + 1 : Nat) : Int) := by rw [w64 (by omega) (by omega)]; rfl
    refine Ev.next (fun k => by rw [tableauref24_Changed.l2, if_pos (by omega), if_pos (by omega), if_pos (by omega), if_pos (by omega), rdE ha, rdV hi, if_pos hs, decide_eq_true (by omega)]) ?_
    refine Ev.next (fun k => by rw [tableauref24_Changed.j5, if_pos rfl, if_pos (by omega), if_pos (by omega), if_pos (by omega), if_pos (by omega), if_pos (by omega), rdE ha, if_pos (by omega), rdV hi, rdT hj, e1]) ?_
    refine Ev.bind (spotR_eq hv (d2 _ (List.getElem_mem hj))) ?_
    refine Ev.bind (addR (S := S) (spotR_64 hv (toR ds[a].f1[j]))) ?_
    refine rchg2 hd hi hv ha hs n (j + 1) (S ++ [spotR l[i] (toR ds[a].f1[j])]) (by omega) ?_
    rw [List.drop_eq_getElem_cons hj, List.map_cons] at e
    rw [List.append_assoc]
    exact e
theorem rchg1 (hd : Eok ds) {i : Nat} (hi : i < l.length) (hv : NearV l[i]) : ∀ (n a : Nat) (S : List R), a + n = ds.length →
    Ev (fun k => tableauref24_Changed.l0 k old l ds ((flatF (S ++ (ds.drop a).flatMap (dOneR l[i]))).map ofR) (wrap64 ((i : Int) + 1))) W →
    Ev (fun k => tableauref24_Changed.l1 k old l ds ((flatF S).map ofR) (i : Int) (a : Int)) W
  | 0, a, S, h, e => by
    rw [List.drop_of_length_le (by omega), List.flatMap_nil, List.append_nil] at e
    exact Ev.next (fun k => by rw [tableauref24_Changed.l1, if_neg (by omega)]) e
  | n + 1, a, S, h, e => by
    have ha : a < ds.length := by omega
    have hl := hd.1
    have e1 : wrap64 ((a : Int) + 1) = ((a + 1 : Nat) : Int) := by rw [w64 (by omega) (by omega)]; rfl
    rw [List.drop_eq_getElem_cons ha, List.flatMap_cons] at e
    refine Ev.next (fun k => by rw [tableauref24_Changed.l1, if_pos (by omega)]) ?_
    by_cases hs : ds[a].f0 = l[i].f0
    · refine rchg2 hd hi hv ha hs ds[a].f1.length 0 S (by omega) ?_
      rw [e1, List.drop_zero]
      refine rchg1 hd hi hv n (a + 1) _ (by omega) ?_
      rw [List.append_assoc, show ds[a].f1.map (fun s => spotR l[i] (toR s)) = dOneR l[i] ds[a] from (if_pos hs).symm]
      exact e
    · rw [show dOneR l[i] ds[a] = [] from if_neg hs, List.nil_append] at e
      refine Ev.next (fun k => by rw [tableauref24_Changed.l2, if_pos (by omega), if_pos (by omega), if_pos (by omega), if_pos (by omega), rdE ha, rdV hi, if_neg hs]) ?_
      refine Ev.next (fun k => by rw [tableauref24_Changed.j5, if_neg (by decide), e1]) ?_
      exact rchg1 hd hi hv n (a + 1) S (by omega) e
theorem rchg6 (hl : ∀ v ∈ l, NearV v) (i : Nat) (S : List R)
    (e : Ev (fun k => tableauref24_Changed.l0 k old l ds ((flatF (S ++ if decide (i < l.length) = true then [rv (atV l i)] else [])).map ofR) (wrap64 ((i : Int) + 1))) W) :
    Ev (fun k => tableauref24_Changed.j6 k old l ds ((flatF S).map ofR) (i : Int)) W := by
  by_cases h : i < l.length
  · rw [decide_eq_true h, if_pos rfl, at_eq h] at e
    refine Ev.next (fun k => by rw [tableauref24_Changed.j6, if_pos (by omega), if_pos (by omega), rdV h]) ?_
    refine Ev.bind0 (v := tupR (rv l[i])) rfl ?_
    exact Ev.bind (addR (S := S) (near_64 (hl _ (List.getElem_mem h)))) e
  · rw [decide_eq_false h, if_neg (by decide), List.append_nil] at e
    exact Ev.next (fun k => by rw [tableauref24_Changed.j6, if_neg (by omega)]) e
theorem rchg20 (ho : ∀ v ∈ old, NearV v) (hl : ∀ v ∈ l, NearV v) (i : Nat) (S : List R)
    (e : Ev (fun k => tableauref24_Changed.l0 k old l ds ((flatF (S ++ ((if decide (i < old.length) = true then [rv (atV old i)] else []) ++ (if decide (i < l.length) = true then [rv (atV l i)] else [])))).map ofR) (wrap64 ((i : Int) + 1))) W) :
    Ev (fun k => tableauref24_Changed.j2 k old l ds ((flatF S).map ofR) (i : Int) false) W := by
  rw [← List.append_assoc] at e
  by_cases h : i < old.length
  · rw [decide_eq_true h, if_pos rfl, at_eq h] at e
    refine Ev.next (fun k => by rw [tableauref24_Changed.j2, if_neg (by decide), if_pos (by omega), if_pos (by omega), rdV h]) ?_
    refine Ev.bind0 (v := tupR (rv old[i])) rfl ?_
    refine Ev.bind (addR (S := S) (near_64 (ho _ (List.getElem_mem h)))) ?_
    exact rchg6 hl i _ e
  · rw [decide_eq_false h, if_neg (by decide), List.append_nil] at e
    refine Ev.next (fun k => by rw [tableauref24_Changed.j2, if_neg (by decide), if_neg (by omega)]) ?_
    exact rchg6 hl i S e
end
def dListR (v : S54) (ds : List S75) : List R := ds.flatMap (dOneR v)
def stepR (old l : List S54) (ds : List S75) (i : Nat) : List R := if (decide (i < old.length) && (decide (i < l.length) && eqV (atV old i) (atV l i))) = true then dListR (atV l i) ds else (if decide (i < old.length) = true then [rv (atV old i)] else []) ++ (if decide (i < l.length) = true then [rv (atV l i)] else [])
def seqR (old l : List S54) (ds : List S75) (n i : Nat) : List R := (List.range' i n).flatMap (stepR old l ds)
theorem seqR_succ (old l : List S54) (ds : List S75) (n i : Nat) : seqR old l ds (n + 1) i = stepR old l ds i ++ seqR old l ds n (i + 1) := by
  unfold seqR
  rw [List.range'_succ, List.flatMap_cons]
theorem rchg_l {old l : List S54} {ds : List S75} (ho : ∀ v ∈ old, NearV v) (hl : ∀ v ∈ l, NearV v) (hd : Eok ds) (n1 : old.length ≤ 1000000) (n2 : l.length ≤ 1000000) : ∀ (n i : Nat) (S : List R), i + n = max old.length l.length →
    Ev (fun k => tableauref24_Changed.l0 k old l ds ((flatF S).map ofR) (i : Int)) ((flatF (S ++ seqR old l ds n i)).map ofR)
  | 0, i, S, h => by
    rw [show seqR old l ds 0 i = [] from rfl, List.append_nil]
    refine Ev.next (fun k => by rw [tableauref24_Changed.l0, if_neg (by omega), decide_eq_false (by omega)]) ?_
    exact Ev.next (G := fun _ => some ((flatF S).map ofR)) (fun k => by rw [tableauref24_Changed.j1, if_neg (by decide)]) (Ev.ret _)
  | n + 1, i, S, h => by
    have e1 : wrap64 ((i : Int) + 1) = ((i + 1 : Nat) : Int) := by rw [w64 (by omega) (by omega)]; rfl
    have ih := rchg_l ho hl hd n1 n2 n (i + 1) (S ++ stepR old l ds i) (by omega)
    rw [List.append_assoc, ← seqR_succ, ← e1] at ih
    unfold stepR at ih
    have j1 : Ev (fun k => tableauref24_Changed.j1 k old l ds ((flatF S).map ofR) (i : Int) true) ((flatF (S ++ seqR old l ds (n + 1) i)).map ofR) := by
      by_cases h1 : i < old.length
      · by_cases h2 : i < l.length
        · refine Ev.next (fun k => by rw [tableauref24_Changed.j1, if_pos rfl, if_pos (by omega), if_pos (by omega), if_pos (by omega), rdV h1, rdV h2]) ?_
          show Ev (fun k => tableauref24_Changed.j2 k old l ds ((flatF S).map ofR) (i : Int) (eqV old[i] l[i])) _
          rw [decide_eq_true h1, decide_eq_true h2, Bool.true_and, Bool.true_and, at_eq h1, at_eq h2] at ih
          cases hq : eqV old[i] l[i] with
          | true =>
            rw [hq, if_pos rfl] at ih
            refine Ev.next (fun k => by rw [tableauref24_Changed.j2, if_pos rfl]) ?_
            exact rchg1 hd h2 (hl _ (List.getElem_mem h2)) ds.length 0 S (by omega) ih
          | false =>
            rw [hq, if_neg (by decide)] at ih
            refine rchg20 ho hl i S ?_
            rw [decide_eq_true h1, decide_eq_true h2, at_eq h1, at_eq h2]
            exact ih
        · refine Ev.next (fun k => by rw [tableauref24_Changed.j1, if_pos rfl, if_pos (by omega), if_neg (by omega)]) ?_
          rw [decide_eq_true h1, decide_eq_false h2, Bool.true_and, Bool.false_and, if_neg (by decide)] at ih
          refine rchg20 ho hl i S ?_
          rw [decide_eq_true h1, decide_eq_false h2]
          exact ih
      · refine Ev.next (fun k => by rw [tableauref24_Changed.j1, if_pos rfl, if_neg (by omega)]) ?_
        rw [decide_eq_false h1, Bool.false_and, if_neg (by decide)] at ih
        refine rchg20 ho hl i S ?_
        rw [decide_eq_false h1]
        exact ih
    by_cases h1 : i < old.length
    · exact Ev.next (fun k => by rw [tableauref24_Changed.l0, if_pos (by omega)]) j1
    · refine Ev.next (fun k => by rw [tableauref24_Changed.l0, if_neg (by omega), decide_eq_true (by omega)]) j1
theorem rchgP {old l : List S54} {ds : List S75} (ho : ∀ v ∈ old, NearV v) (hl : ∀ v ∈ l, NearV v) (hd : Eok ds) (n1 : old.length ≤ 1000000) (n2 : l.length ≤ 1000000) :
    Ev (fun k => tableauref24_Changed.f k old l ds) ((flatF (seqR old l ds (max old.length l.length) 0)).map ofR) := by
  have := rchg_l ho hl hd n1 n2 (max old.length l.length) 0 [] (by omega)
  rw [List.nil_append] at this
  exact this

/-! both are one -/
theorem flat_cg {A B : List R} (h : flatF A = flatF B) (C : List R) : flatF (A ++ C) = flatF (B ++ C) := by
  unfold flatF at *
  rw [List.foldl_append, List.foldl_append, h]
theorem flat_z (S : List R) : flatF (S ++ [zR]) = flatF S := by
  rw [← flat_snoc]
  unfold damAdd
  rw [flat_flat]
  refine put_in (rg_flat S) (len_flat S) fun p q h => ?_
  unfold inR zR at h
  simp only at h
  omega
theorem flat_zs (S : List R) : ∀ L : List R, (∀ r ∈ L, r = zR) → flatF (S ++ L) = flatF S
  | [], _ => by rw [List.append_nil]
  | r :: L, h => by
    obtain rfl := h r (List.mem_cons_self)
    rw [← List.singleton_append, ← List.append_assoc, flat_cg (flat_z S) L]
    exact flat_zs S L fun r hr => h r (List.mem_cons_of_mem _ hr)
theorem spot_same {v : S54} (hc : rChk (rv v) = true) (r : R) : spotR v r = spotF v r := by
  unfold spotR
  cases he : emp (rBound r) with
  | false => rw [if_pos ⟨hc, rfl⟩]
  | true =>
    rw [if_neg (by simp)]
    unfold spotF rShift
    rw [if_pos he]
    unfold rCut
    rw [if_pos (by rw [emp_z]; rfl)]
def cvD (d : S75) : S52 := ⟨d.f0, d.f1⟩
theorem dlist_same (v : S54) (ds : List S75) (S : List R) : flatF (S ++ dListR v ds) = flatF (S ++ dList v (ds.map cvD)) := by
  unfold dListR dList
  cases hc : rChk (rv v) with
  | true =>
    rw [if_pos rfl, List.flatMap_map]
    congr 3
    refine funext fun d => ?_
    unfold dOneR dOne cvD
    by_cases h : d.f0 = v.f0
    · rw [if_pos h, if_pos h]
      exact List.map_congr_left fun s _ => spot_same hc _
    · rw [if_neg h, if_neg h]
  | false =>
    rw [if_neg (by decide), List.append_nil]
    refine flat_zs S _ fun r hr => ?_
    obtain ⟨d, _, hd⟩ := List.mem_flatMap.1 hr
    unfold dOneR at hd
    split at hd
    · obtain ⟨s, _, rfl⟩ := List.mem_map.1 hd
      unfold spotR
      rw [if_neg (by rw [hc]; simp)]
    · cases hd
theorem seq_same (old l : List S54) (ds : List S75) : ∀ (n i : Nat) (S : List R), flatF (S ++ seqR old l ds n i) = flatF (S ++ seqL old l (ds.map cvD) n i)
  | 0, i, S => rfl
  | n + 1, i, S => by
    rw [seqR_succ, seqL_succ, ← List.append_assoc, ← List.append_assoc, seq_same old l ds n (i + 1)]
    refine flat_cg ?_ _
    rw [stepL_eq]
    unfold stepR
    by_cases h : (decide (i < old.length) && (decide (i < l.length) && eqV (atV old i) (atV l i))) = true
    · rw [if_pos h, if_pos h, dlist_same]
      simp only [Bool.and_eq_true] at h
      rw [eqV_iff.1 h.2.2]
    · rw [if_neg h, if_neg h]
end Go.Proofs.Ytclpppejabfbbaa.PF
/- Repaint: near, awake. -/
set_option linter.unusedVariables false
set_option linter.unusedSimpArgs false
namespace Go.Proofs.Ytclpppejabfbbaa.PF
open Go.RowKit Go.Proofs.YtclpppejabfbbaaW.PrintWords Go.Proofs.Ytclpppejabfbbaa.Reg Go.Proofs.Ytclpppejabfbbaa.Rect Go.Proofs.Ytclpppejabfbbaa.Wk

theorem near_l (l : List S54) (hn : l.length ≤ 9223372036854775807) : ∀ (n i : Nat), i + n = l.length → (∀ v ∈ l.take i, NearV v) → ∃ r, Ev (fun k => tableaulaw24_near.l0 k l (i : Int)) r ∧ (r = true → (∀ v ∈ l, NearV v) ∧ l.length ≤ 10)
  | 0, i, h, hv => by
    rw [List.take_of_length_le (by omega)] at hv
    exact ⟨decide ((l.length : Int) ≤ 10), Ev.next (G := fun _ => some (decide ((l.length : Int) ≤ 10))) (fun k => by rw [tableaulaw24_near.l0, if_neg (by omega)]) (Ev.ret _), fun hr => ⟨hv, by have := of_decide_eq_true hr; omega⟩⟩
  | n + 1, i, h, hv => by
    have hi : i < l.length := by omega
    have e1 : wrap64 ((i : Int) + 1) = ((i + 1 : Nat) : Int) := by rw [w64 (by omega) (by omega)]; rfl
    have st : ∀ k, tableaulaw24_near.l0 (k + 1) l (i : Int) = if mx (mx (mx l[i].f2 l[i].f3) l[i].f4) l[i].f5 > 67108864 then some false else if mn (mn (mn l[i].f2 l[i].f3) l[i].f4) l[i].f5 < -67108864 then some false else tableaulaw24_near.l0 k l ((i + 1 : Nat) : Int) := fun k => by
      rw [tableaulaw24_near.l0, if_pos (by omega), if_pos (by omega), rdV hi, e1]
    by_cases c1 : mx (mx (mx l[i].f2 l[i].f3) l[i].f4) l[i].f5 > 67108864
    · exact ⟨false, Ev.next st (Ev.pos c1 (Ev.ret _)), fun hr => by cases hr⟩
    · by_cases c2 : mn (mn (mn l[i].f2 l[i].f3) l[i].f4) l[i].f5 < -67108864
      · exact ⟨false, Ev.next st (Ev.neg c1 (Ev.pos c2 (Ev.ret _))), fun hr => by cases hr⟩
      · obtain ⟨r, e, hr⟩ := near_l l hn n (i + 1) (by omega) (fun v hm => by
          rw [List.take_succ_eq_append_getElem hi] at hm
          rcases List.mem_append.1 hm with hm | hm
          · exact hv v hm
          · rw [List.mem_singleton] at hm
            rw [hm]
            rw [mx_max, mx_max, mx_max] at c1
            rw [mn_min, mn_min, mn_min] at c2
            exact ⟨⟨by omega, by omega⟩, ⟨by omega, by omega⟩, ⟨by omega, by omega⟩, ⟨by omega, by omega⟩⟩)
        exact ⟨r, Ev.next st (Ev.neg c1 (Ev.neg c2 e)), hr⟩
theorem nearP (l : List S54) (hn : l.length ≤ 9223372036854775807) : ∃ r, Ev (fun k => tableaulaw24_near.f k l) r ∧ (r = true → (∀ v ∈ l, NearV v) ∧ l.length ≤ 10) := near_l l hn l.length 0 (by omega) (by simp)
theorem awake24 : Ev (fun k => tableaulaw24_awake.f k) true := by
  have h1 : ∀ v ∈ [(⟨1, 0, 0, 0, 2, 2⟩ : S54)], NearV v := by
    intro v hv
    rw [List.mem_singleton] at hv
    rw [hv]
    exact ⟨⟨by decide, by decide⟩, ⟨by decide, by decide⟩, ⟨by decide, by decide⟩, ⟨by decide, by decide⟩⟩
  have hd : Dok [] := ⟨by decide, by simp⟩
  have c1 := chgP (old := []) (l := [⟨1, 0, 0, 0, 2, 2⟩]) (ds := []) (by simp) h1 hd (by decide) (by decide)
  have c2 := chgP (old := [⟨1, 0, 0, 0, 2, 2⟩]) (l := [⟨1, 0, 0, 0, 2, 2⟩]) (ds := []) h1 h1 hd (by decide) (by decide)
  rw [show flatF (seqL [] [(⟨1, 0, 0, 0, 2, 2⟩ : S54)] [] (max ([] : List S54).length [(⟨1, 0, 0, 0, 2, 2⟩ : S54)].length) 0) = [⟨0, 0, 2, 2⟩] from by decide] at c1
  rw [show flatF (seqL [(⟨1, 0, 0, 0, 2, 2⟩ : S54)] [(⟨1, 0, 0, 0, 2, 2⟩ : S54)] [] (max [(⟨1, 0, 0, 0, 2, 2⟩ : S54)].length [(⟨1, 0, 0, 0, 2, 2⟩ : S54)].length) 0) = [] from by decide] at c2
  unfold tableaulaw24_awake.f
  refine Ev.bind0 rfl ?_
  refine Ev.bind c1 ?_
  refine Ev.bind c2 ?_
  refine Ev.pos rfl ?_
  refine Ev.pos rfl ?_
  refine Ev.pos (by decide) ?_
  exact Ev.ret true
end Go.Proofs.Ytclpppejabfbbaa.PF
